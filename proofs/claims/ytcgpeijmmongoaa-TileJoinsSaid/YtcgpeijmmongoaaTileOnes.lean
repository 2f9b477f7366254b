/- The walk of TileOnes. -/
import Derived.Test.YtcgpeijmmongoaaTileO
import Derived.Test.YtcgpeijmmongoaaTileBack
import Derived.Deep.RegionHeld3
import Derived.BigQuiet
import Derived.Deep.QuietTactic
namespace Go.Proofs.Ytcgpeijmmongoaa
set_option linter.all false
open Go.RowKit

set_option maxRecDepth 100000 in
set_option maxHeartbeats 3200000 in
theorem tileOnes_early (s t : Sh) (A : Option Addr) (n a : Nat) (A' : Option Addr) (n' a' : Nat) (z : Int) (w : World) (h : ¬ (n ≤ 20000 ∧ n' ≤ 20000 ∧ s.mayR n = true ∧ t.mayR n' = true ∧ s = t)) :
    Calls Try.prog 8 #[s.r A n a, t.r A' n' a', .int .i64 z] w fun e w' => e = .returned (.bool true) ∧ Below w.heap.size w w' := by
  have hB := Below.refl w.heap.size w
  have HF1 := Lib.hid (fun w => few_any s A n a w)
  have HF2 := Lib.hid (fun w => few_any t A' n' a' w)
  have HM1 := Lib.hid (fun w => may_any s A n a w)
  have HM2 := Lib.hid (fun w => may_any t A' n' a' w)
  have HS := Lib.hid (fun w => shape_any s t w)
  by_cases q1 : n ≤ 20000
  · have HV1 := Lib.hid (show decide (n ≤ 20000) = true by simpa using q1)
    by_cases q2 : n' ≤ 20000
    · have HV2 := Lib.hid (show decide (n' ≤ 20000) = true by simpa using q2)
      by_cases q3 : s.mayR n = true
      · have HMV1 := Lib.hid (show s.mayR n = true by simpa using q3)
        by_cases q4 : t.mayR n' = true
        · have HMV2 := Lib.hid (show t.mayR n' = true by simpa using q4)
          by_cases q5 : s = t
          · have HSV := Lib.hid (show decide (s = t) = true by simpa using q5)
            exact absurd ⟨q1, q2, q3, q4, q5⟩ h
          · have HSV := Lib.hid (show decide (s = t) = false by simpa using q5)
            clear h q1 q2 q3 q4 q5
            dsimp only [Sh.r, Sh.v] at *
            go_enter Try.func8, Try.ntmps8
            go_wp2_with (first
              | (go_at_call 15; (with_reducible refine (first10_any _).mono ?_); go_must (rintro e w1 ⟨rfl, hb1⟩; first | (have _t := c1; (try replace c1 := kept c1 rfl hb1); (try replace c2 := kept c2 rfl hb1); replace hB := bstep hB hb1 (Nat.le_refl _); clear hb1) | (have c2 := box5 hb1; rw [World.size_alloc] at c2; replace hb1 := bxd hb1; have c1 := box5 hb1; replace hB := bxd hb1; clear hb1)))
              | (go_at_call 23; (with_reducible refine (HF1.out _).mono ?_); go_must (rintro e w1 ⟨rfl, hb1⟩; rw [HV1.out]; (try replace c1 := kept c1 rfl hb1); (try replace c2 := kept c2 rfl hb1); replace hB := bstep hB hb1 (Nat.le_refl _); clear hb1))
              | (go_at_call 23; (with_reducible refine (HF2.out _).mono ?_); go_must (rintro e w1 ⟨rfl, hb1⟩; rw [HV2.out]; (try replace c1 := kept c1 rfl hb1); (try replace c2 := kept c2 rfl hb1); replace hB := bstep hB hb1 (Nat.le_refl _); clear hb1))
              | (go_at_call 20; (with_reducible refine (HM1.out _).mono ?_); go_must (rintro e w1 ⟨rfl, hb1⟩; rw [HMV1.out]; (try replace c1 := kept c1 rfl hb1); (try replace c2 := kept c2 rfl hb1); replace hB := bstep hB hb1 (Nat.le_refl _); clear hb1))
              | (go_at_call 20; (with_reducible refine (HM2.out _).mono ?_); go_must (rintro e w1 ⟨rfl, hb1⟩; rw [HMV2.out]; (try replace c1 := kept c1 rfl hb1); (try replace c2 := kept c2 rfl hb1); replace hB := bstep hB hb1 (Nat.le_refl _); clear hb1))
              | (go_at_call 21; (with_reducible refine (HS.out _).mono ?_); go_must (rintro e w1 ⟨rfl, hb1⟩; rw [HSV.out]; (try replace c1 := kept c1 rfl hb1); (try replace c2 := kept c2 rfl hb1); replace hB := bstep hB hb1 (Nat.le_refl _); clear hb1)))
            go_ret
            exact ⟨rfl, hB⟩
        · have HMV2 := Lib.hid (show t.mayR n' = false by simpa using q4)
          clear h q1 q2 q3 q4
          dsimp only [Sh.r, Sh.v] at *
          go_enter Try.func8, Try.ntmps8
          go_wp2_with (first
            | (go_at_call 15; (with_reducible refine (first10_any _).mono ?_); go_must (rintro e w1 ⟨rfl, hb1⟩; first | (have _t := c1; (try replace c1 := kept c1 rfl hb1); (try replace c2 := kept c2 rfl hb1); replace hB := bstep hB hb1 (Nat.le_refl _); clear hb1) | (have c2 := box5 hb1; rw [World.size_alloc] at c2; replace hb1 := bxd hb1; have c1 := box5 hb1; replace hB := bxd hb1; clear hb1)))
            | (go_at_call 23; (with_reducible refine (HF1.out _).mono ?_); go_must (rintro e w1 ⟨rfl, hb1⟩; rw [HV1.out]; (try replace c1 := kept c1 rfl hb1); (try replace c2 := kept c2 rfl hb1); replace hB := bstep hB hb1 (Nat.le_refl _); clear hb1))
            | (go_at_call 23; (with_reducible refine (HF2.out _).mono ?_); go_must (rintro e w1 ⟨rfl, hb1⟩; rw [HV2.out]; (try replace c1 := kept c1 rfl hb1); (try replace c2 := kept c2 rfl hb1); replace hB := bstep hB hb1 (Nat.le_refl _); clear hb1))
            | (go_at_call 20; (with_reducible refine (HM1.out _).mono ?_); go_must (rintro e w1 ⟨rfl, hb1⟩; rw [HMV1.out]; (try replace c1 := kept c1 rfl hb1); (try replace c2 := kept c2 rfl hb1); replace hB := bstep hB hb1 (Nat.le_refl _); clear hb1))
            | (go_at_call 20; (with_reducible refine (HM2.out _).mono ?_); go_must (rintro e w1 ⟨rfl, hb1⟩; rw [HMV2.out]; (try replace c1 := kept c1 rfl hb1); (try replace c2 := kept c2 rfl hb1); replace hB := bstep hB hb1 (Nat.le_refl _); clear hb1))
            | (go_at_call 21; (with_reducible refine (HS.out _).mono ?_); go_must (rintro e w1 ⟨rfl, hb1⟩; rw [HSV.out]; (try replace c1 := kept c1 rfl hb1); (try replace c2 := kept c2 rfl hb1); replace hB := bstep hB hb1 (Nat.le_refl _); clear hb1)))
          go_ret
          exact ⟨rfl, hB⟩
      · have HMV1 := Lib.hid (show s.mayR n = false by simpa using q3)
        clear h q1 q2 q3
        dsimp only [Sh.r, Sh.v] at *
        go_enter Try.func8, Try.ntmps8
        go_wp2_with (first
          | (go_at_call 15; (with_reducible refine (first10_any _).mono ?_); go_must (rintro e w1 ⟨rfl, hb1⟩; first | (have _t := c1; (try replace c1 := kept c1 rfl hb1); (try replace c2 := kept c2 rfl hb1); replace hB := bstep hB hb1 (Nat.le_refl _); clear hb1) | (have c2 := box5 hb1; rw [World.size_alloc] at c2; replace hb1 := bxd hb1; have c1 := box5 hb1; replace hB := bxd hb1; clear hb1)))
          | (go_at_call 23; (with_reducible refine (HF1.out _).mono ?_); go_must (rintro e w1 ⟨rfl, hb1⟩; rw [HV1.out]; (try replace c1 := kept c1 rfl hb1); (try replace c2 := kept c2 rfl hb1); replace hB := bstep hB hb1 (Nat.le_refl _); clear hb1))
          | (go_at_call 23; (with_reducible refine (HF2.out _).mono ?_); go_must (rintro e w1 ⟨rfl, hb1⟩; rw [HV2.out]; (try replace c1 := kept c1 rfl hb1); (try replace c2 := kept c2 rfl hb1); replace hB := bstep hB hb1 (Nat.le_refl _); clear hb1))
          | (go_at_call 20; (with_reducible refine (HM1.out _).mono ?_); go_must (rintro e w1 ⟨rfl, hb1⟩; rw [HMV1.out]; (try replace c1 := kept c1 rfl hb1); (try replace c2 := kept c2 rfl hb1); replace hB := bstep hB hb1 (Nat.le_refl _); clear hb1))
          | (go_at_call 20; (with_reducible refine (HM2.out _).mono ?_); go_must (rintro e w1 ⟨rfl, hb1⟩; rw [HMV2.out]; (try replace c1 := kept c1 rfl hb1); (try replace c2 := kept c2 rfl hb1); replace hB := bstep hB hb1 (Nat.le_refl _); clear hb1))
          | (go_at_call 21; (with_reducible refine (HS.out _).mono ?_); go_must (rintro e w1 ⟨rfl, hb1⟩; rw [HSV.out]; (try replace c1 := kept c1 rfl hb1); (try replace c2 := kept c2 rfl hb1); replace hB := bstep hB hb1 (Nat.le_refl _); clear hb1)))
        go_ret
        exact ⟨rfl, hB⟩
    · have HV2 := Lib.hid (show decide (n' ≤ 20000) = false by simpa using q2)
      clear h q1 q2
      dsimp only [Sh.r, Sh.v] at *
      go_enter Try.func8, Try.ntmps8
      go_wp2_with (first
        | (go_at_call 15; (with_reducible refine (first10_any _).mono ?_); go_must (rintro e w1 ⟨rfl, hb1⟩; first | (have _t := c1; (try replace c1 := kept c1 rfl hb1); (try replace c2 := kept c2 rfl hb1); replace hB := bstep hB hb1 (Nat.le_refl _); clear hb1) | (have c2 := box5 hb1; rw [World.size_alloc] at c2; replace hb1 := bxd hb1; have c1 := box5 hb1; replace hB := bxd hb1; clear hb1)))
        | (go_at_call 23; (with_reducible refine (HF1.out _).mono ?_); go_must (rintro e w1 ⟨rfl, hb1⟩; rw [HV1.out]; (try replace c1 := kept c1 rfl hb1); (try replace c2 := kept c2 rfl hb1); replace hB := bstep hB hb1 (Nat.le_refl _); clear hb1))
        | (go_at_call 23; (with_reducible refine (HF2.out _).mono ?_); go_must (rintro e w1 ⟨rfl, hb1⟩; rw [HV2.out]; (try replace c1 := kept c1 rfl hb1); (try replace c2 := kept c2 rfl hb1); replace hB := bstep hB hb1 (Nat.le_refl _); clear hb1))
        | (go_at_call 20; (with_reducible refine (HM1.out _).mono ?_); go_must (rintro e w1 ⟨rfl, hb1⟩; rw [HMV1.out]; (try replace c1 := kept c1 rfl hb1); (try replace c2 := kept c2 rfl hb1); replace hB := bstep hB hb1 (Nat.le_refl _); clear hb1))
        | (go_at_call 20; (with_reducible refine (HM2.out _).mono ?_); go_must (rintro e w1 ⟨rfl, hb1⟩; rw [HMV2.out]; (try replace c1 := kept c1 rfl hb1); (try replace c2 := kept c2 rfl hb1); replace hB := bstep hB hb1 (Nat.le_refl _); clear hb1))
        | (go_at_call 21; (with_reducible refine (HS.out _).mono ?_); go_must (rintro e w1 ⟨rfl, hb1⟩; rw [HSV.out]; (try replace c1 := kept c1 rfl hb1); (try replace c2 := kept c2 rfl hb1); replace hB := bstep hB hb1 (Nat.le_refl _); clear hb1)))
      go_ret
      exact ⟨rfl, hB⟩
  · have HV1 := Lib.hid (show decide (n ≤ 20000) = false by simpa using q1)
    clear h q1
    dsimp only [Sh.r, Sh.v] at *
    go_enter Try.func8, Try.ntmps8
    go_wp2_with (first
      | (go_at_call 15; (with_reducible refine (first10_any _).mono ?_); go_must (rintro e w1 ⟨rfl, hb1⟩; first | (have _t := c1; (try replace c1 := kept c1 rfl hb1); (try replace c2 := kept c2 rfl hb1); replace hB := bstep hB hb1 (Nat.le_refl _); clear hb1) | (have c2 := box5 hb1; rw [World.size_alloc] at c2; replace hb1 := bxd hb1; have c1 := box5 hb1; replace hB := bxd hb1; clear hb1)))
      | (go_at_call 23; (with_reducible refine (HF1.out _).mono ?_); go_must (rintro e w1 ⟨rfl, hb1⟩; rw [HV1.out]; (try replace c1 := kept c1 rfl hb1); (try replace c2 := kept c2 rfl hb1); replace hB := bstep hB hb1 (Nat.le_refl _); clear hb1))
      | (go_at_call 23; (with_reducible refine (HF2.out _).mono ?_); go_must (rintro e w1 ⟨rfl, hb1⟩; rw [HV2.out]; (try replace c1 := kept c1 rfl hb1); (try replace c2 := kept c2 rfl hb1); replace hB := bstep hB hb1 (Nat.le_refl _); clear hb1))
      | (go_at_call 20; (with_reducible refine (HM1.out _).mono ?_); go_must (rintro e w1 ⟨rfl, hb1⟩; rw [HMV1.out]; (try replace c1 := kept c1 rfl hb1); (try replace c2 := kept c2 rfl hb1); replace hB := bstep hB hb1 (Nat.le_refl _); clear hb1))
      | (go_at_call 20; (with_reducible refine (HM2.out _).mono ?_); go_must (rintro e w1 ⟨rfl, hb1⟩; rw [HMV2.out]; (try replace c1 := kept c1 rfl hb1); (try replace c2 := kept c2 rfl hb1); replace hB := bstep hB hb1 (Nat.le_refl _); clear hb1))
      | (go_at_call 21; (with_reducible refine (HS.out _).mono ?_); go_must (rintro e w1 ⟨rfl, hb1⟩; rw [HSV.out]; (try replace c1 := kept c1 rfl hb1); (try replace c2 := kept c2 rfl hb1); replace hB := bstep hB hb1 (Nat.le_refl _); clear hb1)))
    go_ret
    exact ⟨rfl, hB⟩

def onesC (s : Sh) (bs ds : List UInt8) (N : Nat) (z : Int) : Bool := decide (z < 0) || decide ((N : Int) ≤ z) || s.cutB bs z.toNat == s.cutB ds z.toNat
structure OI (w0 : World) (s : Sh) (A : Option Addr) (n a : Nat) (A' : Option Addr) (n' a' : Nat) (bs ds : List UInt8) (N ga ca gb cb : Nat) (la lb : List Ra) (w : World) : Prop where
  c1 : ∀ i, w.cell? ⟨w0.heap.size, i, none⟩ = r5 (.int .i64 s.w) (.int .i64 s.h) (.int .i64 s.c) (.int .i64 s.d) (.slice A n a) i
  c2 : ∀ i, w.cell? ⟨w0.heap.size + 1, i, none⟩ = r5 (.int .i64 s.w) (.int .i64 s.h) (.int .i64 s.c) (.int .i64 s.d) (.slice A' n' a') i
  oa : ownR w (w0.heap.size + 2) (.slice (some ⟨ga, 0, none⟩) N ca) la
  ta : Tiles w (w0.heap.size + 2) s bs la
  ob : ownR w (w0.heap.size + 2) (.slice (some ⟨gb, 0, none⟩) N cb) lb
  tb : Tiles w (w0.heap.size + 2) s ds lb
  b : Below w0.heap.size w0 w
theorem OI.later {w0 : World} {s : Sh} {A : Option Addr} {n a : Nat} {A' : Option Addr} {n' a' : Nat} {bs ds : List UInt8} {N ga ca gb cb : Nat} {la lb : List Ra} {w w' : World}
    (h : OI w0 s A n a A' n' a' bs ds N ga ca gb cb la lb w) (hb : Below w.heap.size w w') : OI w0 s A n a A' n' a' bs ds N ga ca gb cb la lb w' :=
  ⟨kept h.c1 rfl hb, kept h.c2 rfl hb, h.oa.later hb, h.ta.later hb, h.ob.later hb, h.tb.later hb, bstep h.b hb (Nat.le_refl _)⟩
theorem ownR.at0 {w : World} {base : Nat} {v : Value} {l : List Ra} (h : ownR w base v l) (hl : 0 < l.length) : ∃ g c, v = .slice (some ⟨g, 0, none⟩) l.length c ∧ base ≤ g ∧ g < w.heap.size := by
  obtain ⟨g, c, e, h1, h2⟩ := World.ownsRow.form h hl
  exact ⟨g, c, e, h1, h2⟩
theorem own_at {w : World} {base base' g c N : Nat} {s : Sh} {bs : List UInt8} {l : List Ra} (ho : ownR w base (.slice (some ⟨g, 0, none⟩) N c) l) (ht : Tiles w base' s bs l) {k : Nat} (hk : k < l.length) :
    Cell5 w g (k * 5) l[k] ∧ RdB w w.heap.size l[k].A l[k].n l[k].bs ∧ l[k].n ≤ l[k].c ∧ l[k].c ≤ maxLen ∧ l[k].s = s.part k ∧ l[k].bs = s.cutB bs k ∧ N = l.length ∧ N ≤ c ∧ c ≤ maxLen := by
  obtain ⟨A', c', e, hr, h1, h2⟩ := ho.rd ht
  injection e with e1 e2 e3
  subst e1 e2 e3
  obtain ⟨b, o, e, _, hc⟩ := hr.cell5 hk
  injection e with e
  injection e with e1 e2 _
  subst e1 e2
  rw [Nat.zero_add] at hc
  obtain ⟨q1, q2, q3⟩ := hr.2 l[k] (List.getElem_mem hk)
  exact ⟨hc, q1, q2, q3, (ht k hk).1, (ht k hk).2.1, rfl, h1, h2⟩
theorem ownR.fr {w : World} {base g N c : Nat} {l : List Ra} (h : ownR w base (.slice (some ⟨g, 0, none⟩) N c) l) (j : Nat) : w.frozen? ⟨g, j, none⟩ = false := by
  obtain ⟨A', c', e, -⟩ := h.form
  injection e with _ e2 _
  subst e2
  exact World.ownsRow.frozenAt h j
theorem Tiles.mono {w : World} {base base' : Nat} {s : Sh} {bs : List UInt8} {l : List Ra} (h : Tiles w base s bs l) (hb : base' ≤ base) : Tiles w base' s bs l :=
  fun j hj => ⟨(h j hj).1, (h j hj).2.1, (h j hj).2.2.1, (h j hj).2.2.2.mono hb⟩

set_option maxRecDepth 100000 in
set_option maxHeartbeats 12800000 in
theorem tileOnes_main (s : Sh) (A : Option Addr) (n a : Nat) (A' : Option Addr) (n' a' : Nat) (z : Int) (bs ds : List UInt8) (w : World) (h1 : RdB w w.heap.size A n bs) (h2 : RdB w w.heap.size A' n' ds) (l1 : n ≤ a) (m1 : a ≤ maxLen) (l2 : n' ≤ a') (m2 : a' ≤ maxLen)
    (h0 : n ≤ 20000) (h0' : n' ≤ 20000) (hm : s.mayR n = true) (hm' : s.mayR n' = true) :
    Calls Try.prog 8 #[s.r A n a, s.r A' n' a', .int .i64 z] w fun e w' => e = .returned (.bool true) ∧ Below w.heap.size w w' := by
  have hB := Below.refl w.heap.size w
  have HF1 := Lib.hid (fun w => few_any s A n a w)
  have HF2 := Lib.hid (fun w => few_any s A' n' a' w)
  have HM1 := Lib.hid (fun w => may_any s A n a w)
  have HM2 := Lib.hid (fun w => may_any s A' n' a' w)
  have HS := Lib.hid (fun w => shape_any s s w)
  have HV1 := Lib.hid (show decide (n ≤ 20000) = true by simpa using h0)
  have HV2 := Lib.hid (show decide (n' ≤ 20000) = true by simpa using h0')
  have HMV1 := Lib.hid hm
  have HMV2 := Lib.hid hm'
  have HSV := Lib.hid (show decide (s = s) = true by simp)
  have hl := h1.len
  have hl' := h2.len
  have hmb : s.mayR bs.length = true := by rw [hl]; exact hm
  have hmd : s.mayR ds.length = true := by rw [hl']; exact hm'
  have HMB := Lib.hid hmb
  have HMD := Lib.hid hmd
  obtain ⟨ms, mn⟩ := mayR_iff hmb
  obtain ⟨-, mn'⟩ := mayR_iff hmd
  have HDL := Lib.hid (show ds.length = bs.length by omega)
  have HNN := Lib.hid (show bs.length = n from hl)
  obtain ⟨g1, g2, g3, g4, -, -⟩ := Sh.gw_rng ms
  have hmul : s.gw * s.gh ≤ 32 * 32 := Int.mul_le_mul g2 g4 (by omega) (by omega)
  have hmul0 : 1 ≤ s.gw * s.gh := by
    have := Int.mul_le_mul g1 g3 (by omega) (by omega)
    omega
  obtain ⟨N, hN⟩ := Int.eq_ofNat_of_zero_le (show 0 ≤ s.gw * s.gh by omega)
  have hN2 : N ≤ 1024 := by omega
  have hN1 : 1 ≤ N := by omega
  have HNt : Hid ((s.gw * s.gh).toNat = N) := (show _ = _ by rw [hN]; rfl)
  have HC1 := Lib.hid (fun (w' : World) (hb : Below w.heap.size w w') => cut_ok s w.heap.size n a A bs w' (h1.blw hb) hb.size l1 m1 hm)
  have HC2 := Lib.hid (fun (w' : World) (hb : Below w.heap.size w w') => cut_ok s w.heap.size n' a' A' ds w' (h2.blw hb) hb.size l2 m2 hm')
  have HR := Lib.hid (fun (w' : World) (hb : Below w.heap.size w w') => sameR_any s s w.heap.size n a w.heap.size n' a' A A' bs ds w' (h1.blw hb) (h2.blw hb) hb.size hb.size)
  have e1 : (decide (s = s) && (bs == ds)) = (((diffT s bs ds N : Nat) : Int) == 0) := by
    have := diffT_all hmb HDL.out
    rw [HNt.out] at this
    rw [decide_eq_true rfl, Bool.true_and, ← this, Bool.eq_iff_iff]
    simp
  rw [e1] at HR
  have HJ := Lib.hid (fun (w' : World) (A1 : Option Addr) (c1 : Nat) (l : List Ra) (h : RdR w' w'.heap.size A1 N l) (hc : N ≤ c1) (hmx : c1 ≤ maxLen) => join_any s w'.heap.size N c1 A1 l w' h (Nat.le_refl _) hc hmx)
  have HC3 := Lib.hid (fun (w' : World) (A1 : Option Addr) (c1 : Nat) (X : List UInt8) (h : RdB w' w'.heap.size A1 n X) (hc : n ≤ c1) (hmx : c1 ≤ maxLen) => cut_ok s w'.heap.size n c1 A1 X w' h (Nat.le_refl _) hc hmx hm)
  clear e1 hl hl' hmb hmd ms mn mn' g1 g2 g3 g4 hmul hmul0 hN h1 h2 hm hm' l1 l2 m1 m2
  dsimp only [Sh.r, Sh.v] at *
  go_enter Try.func8, Try.ntmps8
  go_wp2_with (first
    | (go_at_call 15; (with_reducible refine (first10_any _).mono ?_); go_must (rintro e w1 ⟨rfl, hb1⟩; first | (have _t := c1; (try replace c1 := kept c1 rfl hb1); (try replace c2 := kept c2 rfl hb1); replace hB := bstep hB hb1 (Nat.le_refl _); clear hb1) | (have c2 := box5 hb1; rw [World.size_alloc] at c2; replace hb1 := bxd hb1; have c1 := box5 hb1; replace hB := bxd hb1; clear hb1)))
    | (go_at_call 23; (with_reducible refine (HF1.out _).mono ?_); go_must (rintro e w1 ⟨rfl, hb1⟩; rw [HV1.out]; (try replace c1 := kept c1 rfl hb1); (try replace c2 := kept c2 rfl hb1); replace hB := bstep hB hb1 (Nat.le_refl _); clear hb1))
    | (go_at_call 23; (with_reducible refine (HF2.out _).mono ?_); go_must (rintro e w1 ⟨rfl, hb1⟩; rw [HV2.out]; (try replace c1 := kept c1 rfl hb1); (try replace c2 := kept c2 rfl hb1); replace hB := bstep hB hb1 (Nat.le_refl _); clear hb1))
    | (go_at_call 20; (with_reducible refine (HM1.out _).mono ?_); go_must (rintro e w1 ⟨rfl, hb1⟩; rw [HMV1.out]; (try replace c1 := kept c1 rfl hb1); (try replace c2 := kept c2 rfl hb1); replace hB := bstep hB hb1 (Nat.le_refl _); clear hb1))
    | (go_at_call 20; (with_reducible refine (HM2.out _).mono ?_); go_must (rintro e w1 ⟨rfl, hb1⟩; rw [HMV2.out]; (try replace c1 := kept c1 rfl hb1); (try replace c2 := kept c2 rfl hb1); replace hB := bstep hB hb1 (Nat.le_refl _); clear hb1))
    | (go_at_call 21; (with_reducible refine (HS.out _).mono ?_); go_must (rintro e w1 ⟨rfl, hb1⟩; rw [HSV.out]; (try replace c1 := kept c1 rfl hb1); (try replace c2 := kept c2 rfl hb1); replace hB := bstep hB hb1 (Nat.le_refl _); clear hb1))
    | (go_at_call 26; (with_reducible refine (HC1.out _ hB).mono ?_); go_must (rintro e w2 ⟨v, la, rfl, hO, hlen, hT, hb1⟩; have hw1 := Nat.lt_of_lt_of_le (ltOf c2 rfl) (Nat.le_refl _); (try replace c1 := kept c1 rfl hb1); (try replace c2 := kept c2 rfl hb1); replace hB := bstep hB hb1 (Nat.le_refl _); rw [HNt.out] at hlen; have HLA := Lib.hid hlen; have HAC := Lib.hid (AsCut.of (by rw [HNt.out]; exact hlen) hT); obtain ⟨ga, ca, rfl, ga1, ga2⟩ := hO.at0 (by omega); rw [hlen] at hO ⊢; have HOA := Lib.hid (hO.mono (base' := w.heap.size + 2) (by omega)); have HTA := Lib.hid (hT.mono (base' := w.heap.size + 2) (by omega)); clear hO hlen hT hb1))
    | (go_at_call 26; (with_reducible refine (HC2.out _ hB).mono ?_); go_must (rintro e w3 ⟨v, lb, rfl, hO, hlen, hT, hb1⟩; have hw2 := Nat.lt_of_lt_of_le (ltOf c2 rfl) (Nat.le_refl _); (try replace c1 := kept c1 rfl hb1); (try replace c2 := kept c2 rfl hb1); replace hB := bstep hB hb1 (Nat.le_refl _); rw [HNt.out] at hlen; have HLB := Lib.hid hlen; have HBC := Lib.hid (AsCut.of (by rw [HNt.out]; exact hlen) hT); obtain ⟨gb, cb, rfl, gb1, gb2⟩ := hO.at0 (by omega); rw [hlen] at hO ⊢; have HI := Lib.hid (OI.mk (w0 := w) (s := s) c1 c2 (HOA.out.later hb1) (HTA.out.later hb1) (hO.mono (base' := w.heap.size + 2) (by omega)) (hT.mono (base' := w.heap.size + 2) (by omega)) hB); clear hO hlen hT hb1)))
  clear c1 c2 hB
  go_loopw [11, 12] (fun c i wr => ∃ k : Nat, k ≤ N ∧ i = .int .i64 k ∧ c = .int .i64 (diffT s bs ds k) ∧ Hid (OI w s A n a A' n' a' bs ds N ga ca gb cb la lb wr))
    (fun _ i _ => N - (intOf i).toNat)
  case atStart => exact ⟨0, Nat.zero_le _, rfl, rfl, HI⟩
  case round =>
    clear HI
    obtain ⟨k, hk, rfl, rfl, HI⟩ := hrel
    have hdk := diffT_le s bs ds k
    by_cases hlt : k < N
    · have hka : k < la.length := by rw [HLA.out]; exact hlt
      have hkb : k < lb.length := by rw [HLB.out]; exact hlt
      obtain ⟨HE, ra, la1, la2, sa, ba, -, -, -⟩ := own_at HI.out.oa HI.out.ta (k := k) hka
      obtain ⟨HG, rb, lb1, lb2, sb, bb, -, -, -⟩ := own_at HI.out.ob HI.out.tb (k := k) hkb
      rw [ba] at ra
      rw [bb] at rb
      unfold Cell5 at HE HG
      rw [sa] at HE
      rw [sb] at HG
      have HRk := Lib.hid (fun (w' : World) (r1 : RdB w' w'.heap.size la[k].A la[k].n (s.cutB bs k)) (r2 : RdB w' w'.heap.size lb[k].A lb[k].n (s.cutB ds k)) => sameR_any (s.part (k : Int)) (s.part (k : Int)) w'.heap.size la[k].n la[k].c w'.heap.size lb[k].n lb[k].c la[k].A lb[k].A (s.cutB bs k) (s.cutB ds k) w' r1 r2 (Nat.le_refl _) (Nat.le_refl _))
      rw [decide_eq_true rfl, Bool.true_and] at HRk
      generalize s.part (k : Int) = p at HE HG HRk
      generalize la[k].A = xA at HE ra HRk
      generalize la[k].n = xn at HE ra HRk
      generalize la[k].c = xc at HE HRk la1 la2
      generalize lb[k].A = yA at HG rb HRk
      generalize lb[k].n = yn at HG rb HRk
      generalize lb[k].c = yc at HG HRk lb1 lb2
      have HQ : Hid (diffT s bs ds (k + 1) = diffT s bs ds k + if s.cutB bs k == s.cutB ds k then 0 else 1) := (show _ = _ from rfl)
      generalize hbe : (s.cutB bs k == s.cutB ds k) = be at HRk HQ
      clear sa sb ba bb hka hkb la1 la2 lb1 lb2 hbe
      obtain ⟨e0, e1, e2, e3, e4⟩ := HE
      obtain ⟨f0, f1, f2, f3, f4⟩ := HG
      dsimp only [Sh.r] at HRk
      have raD : RdB wr.drew wr.drew.heap.size xA xn (s.cutB bs k) := ra
      have rbD : RdB wr.drew wr.drew.heap.size yA yn (s.cutB ds k) := rb
      go_upto_region 13 with (fail)
      go_cut [86] (fun v wc => v = .bool (!be) ∧ Below wr.heap.size wr wc)
      case first =>
        go_region_with (first
          | (go_at_call 30; (first | with_reducible refine (HRk.out _ raD rbD).mono ?_ | with_reducible refine (HRk.out _ ra rb).mono ?_); go_must (rintro e w5 ⟨rfl, hb5⟩)))
        all_goals
          go_wp2_with fail
          go_meet
          case rel => exact ⟨rfl, (by first | with_reducible exact hb5 | with_reducible exact bstep (Below.drew (Below.refl _ _)) hb5 (Nat.le_refl _))⟩
      case rest =>
        obtain ⟨rfl, hbr⟩ := hcut
        replace HI := Lib.hid (HI.out.later hbr)
        clear e0 e1 e2 e3 e4 f0 f1 f2 f3 f4 ra rb raD rbD hbr
        cases be with
        | true =>
          go_wp2_with fail
          go_roundw
          case rel => exact ⟨k + 1, by omega, by go_num, by rw [HQ.out]; rfl, HI⟩
          case measure => simp [intOf]; omega
        | false =>
          go_wp2_with fail
          go_roundw
          case rel => exact ⟨k + 1, by omega, by go_num, by rw [HQ.out]; simp, HI⟩
          case measure => simp [intOf]; omega
    · obtain rfl : k = N := by omega
      have hdk0 : 0 ≤ diffT s bs ds k := Nat.zero_le _
      obtain ⟨D, hD⟩ : ∃ D, D = diffT s bs ds k := ⟨_, rfl⟩
      rw [← hD] at HR hdk ⊢
      have HD := Lib.hid hD
      clear hD hdk0
      have c1 := HI.out.c1
      have c2 := HI.out.c2
      go_upto_region 17 with (first
        | (go_at_call 30; (with_reducible refine (HR.out _ HI.out.b).mono ?_); go_must (rintro e w5 ⟨rfl, hb5⟩; replace HI := Lib.hid (HI.out.later hb5); clear hb5)))
      go_cut [113] (fun v wc => v = .bool (onesC s bs ds k z) ∧ Hid (OI w s A n a A' n' a' bs ds k ga ca gb cb la lb wc))
      case first =>
        by_cases hz0 : z < 0
        · have z0 : decide (z < 0) = true := by simpa using hz0
          go_quiet (fail)
          all_goals
            go_wp2_with fail
            go_meet
            case rel => exact ⟨by unfold onesC; rw [z0]; rfl, Lib.hid (HI.out.later (bdrewN (Below.refl _ _) _))⟩
        · have z0 : decide (z < 0) = false := by simpa using hz0
          by_cases hz1 : (k : Int) ≤ z
          · have z1 : decide ((k : Int) ≤ z) = true := by simpa using hz1
            go_quiet (fail)
            all_goals
              go_wp2_with fail
              go_meet
              case rel => exact ⟨by unfold onesC; rw [z0, z1]; rfl, Lib.hid (HI.out.later (bdrewN (Below.refl _ _) _))⟩
          · have z1 : decide ((k : Int) ≤ z) = false := by simpa using hz1
            obtain ⟨q, rfl⟩ := Int.eq_ofNat_of_zero_le (show 0 ≤ z by omega)
            have hka : q < la.length := by rw [HLA.out]; omega
            have hkb : q < lb.length := by rw [HLB.out]; omega
            obtain ⟨HE, ra, la1, la2, sa, ba, -, -, -⟩ := own_at HI.out.oa HI.out.ta (k := q) hka
            obtain ⟨HG, rb, lb1, lb2, sb, bb, -, -, -⟩ := own_at HI.out.ob HI.out.tb (k := q) hkb
            rw [ba] at ra
            rw [bb] at rb
            unfold Cell5 at HE HG
            rw [sa] at HE
            rw [sb] at HG
            have HRk := Lib.hid (fun (w' : World) (r1 : RdB w' w'.heap.size la[q].A la[q].n (s.cutB bs q)) (r2 : RdB w' w'.heap.size lb[q].A lb[q].n (s.cutB ds q)) => sameR_any (s.part (q : Int)) (s.part (q : Int)) w'.heap.size la[q].n la[q].c w'.heap.size lb[q].n lb[q].c la[q].A lb[q].A (s.cutB bs q) (s.cutB ds q) w' r1 r2 (Nat.le_refl _) (Nat.le_refl _))
            rw [decide_eq_true rfl, Bool.true_and] at HRk
            have HX : Hid (onesC s bs ds k (q : Int) = (s.cutB bs q == s.cutB ds q)) := (show _ = _ by unfold onesC; rw [z0, z1]; rfl)
            generalize s.part (q : Int) = p at HE HG HRk
            generalize la[q].A = xA at HE ra HRk
            generalize la[q].n = xn at HE ra HRk
            generalize la[q].c = xc at HE HRk la1 la2
            generalize lb[q].A = yA at HG rb HRk
            generalize lb[q].n = yn at HG rb HRk
            generalize lb[q].c = yc at HG HRk lb1 lb2
            generalize (s.cutB bs q == s.cutB ds q) = be at HRk HX
            clear sa sb ba bb hka hkb la1 la2 lb1 lb2
            have raD : RdB w5.drew w5.drew.heap.size xA xn (s.cutB bs q) := ra
            have rbD : RdB w5.drew w5.drew.heap.size yA yn (s.cutB ds q) := rb
            obtain ⟨e0, e1, e2, e3, e4⟩ := HE
            obtain ⟨f0, f1, f2, f3, f4⟩ := HG
            dsimp only [Sh.r] at HRk
            have hqk : q < k := by omega
            go_region_held3 (fun w' => w'.cell? ⟨ga, q * 5, none⟩ = some (.int .i64 p.w) ∧ w'.cell? ⟨ga, q * 5 + 1, none⟩ = some (.int .i64 p.h) ∧ w'.cell? ⟨ga, q * 5 + 2, none⟩ = some (.int .i64 p.c) ∧ w'.cell? ⟨ga, q * 5 + 3, none⟩ = some (.int .i64 p.d) ∧ w'.cell? ⟨ga, q * 5 + 4, none⟩ = some (.slice xA xn xc) ∧ w'.cell? ⟨gb, q * 5, none⟩ = some (.int .i64 p.w) ∧ w'.cell? ⟨gb, q * 5 + 1, none⟩ = some (.int .i64 p.h) ∧ w'.cell? ⟨gb, q * 5 + 2, none⟩ = some (.int .i64 p.c) ∧ w'.cell? ⟨gb, q * 5 + 3, none⟩ = some (.int .i64 p.d) ∧ w'.cell? ⟨gb, q * 5 + 4, none⟩ = some (.slice yA yn yc))
              (first | (with_reducible exact ⟨e0, e1, e2, e3, e4, f0, f1, f2, f3, f4⟩) | (refine ⟨?_, ?_, ?_, ?_, ?_, ?_, ?_, ?_, ?_, ?_⟩ <;> (repeat (first | with_reducible exact e0 | with_reducible exact e1 | with_reducible exact e2 | with_reducible exact e3 | with_reducible exact e4 | with_reducible exact f0 | with_reducible exact f1 | with_reducible exact f2 | with_reducible exact f3 | with_reducible exact f4 | (with_reducible refine cell_drew ?_) | (with_reducible refine cell_alloc ?_ _) | (with_reducible refine cell_below hb5 ?_) | (with_reducible refine cell_belowD hb5 ?_)))))
              (first | (go_at_call 30; (first | with_reducible refine (HRk.out _ raD rbD).mono ?_ | with_reducible refine (HRk.out _ ra rb).mono ?_); go_must (rintro e w6 ⟨rfl, hb5⟩)))
            all_goals
              go_wp2_with fail
              go_meet
              case rel => exact ⟨by rw [HX.out], (by first | with_reducible exact Lib.hid (HI.out.later hb5) | with_reducible exact Lib.hid (HI.out.later (bstep (Below.drew (Below.refl _ _)) hb5 (Nat.le_refl _))))⟩
      case rest =>
        clear HI c1 c2
        obtain ⟨rfl, HI⟩ := hcut
        have hBe := HI.out.b
        cases hX : onesC s bs ds k z with
        | true =>
          have HX := Lib.hid hX
          clear hX
          go_wp2_with (go_at_call 15; (with_reducible refine (first10_any _).mono ?_); go_must (rintro e w7 ⟨rfl, hb7⟩; replace hBe := bstep hBe hb7 (Nat.le_refl _)))
          go_ret
          exact ⟨rfl, hBe⟩
        | false =>
          obtain ⟨q, rfl, hqk, hqq⟩ : ∃ q : Nat, z = (q : Int) ∧ q < k ∧ (s.cutB bs q == s.cutB ds q) = false := by
            unfold onesC at hX
            simp only [Bool.or_eq_false_iff, decide_eq_false_iff_not] at hX
            obtain ⟨⟨x1, x2⟩, x3⟩ := hX
            obtain ⟨q, rfl⟩ := Int.eq_ofNat_of_zero_le (show 0 ≤ z by omega)
            exact ⟨q, rfl, by omega, x3⟩
          clear hX
          have hka : q < la.length := by rw [HLA.out]; omega
          have hkb : q < lb.length := by rw [HLB.out]; omega
          obtain ⟨HE, ra, la1, la2, sa, ba, -, -, -⟩ := own_at HI.out.oa HI.out.ta (k := q) hka
          obtain ⟨HG, rb, lb1, lb2, sb, bb, -, -, -⟩ := own_at HI.out.ob HI.out.tb (k := q) hkb
          rw [ba] at ra
          rw [bb] at rb
          unfold Cell5 at HE HG
          rw [sa] at HE
          rw [sb] at HG
          have HRk := Lib.hid (fun (w' : World) (r1 : RdB w' w'.heap.size la[q].A la[q].n (s.cutB bs q)) (r2 : RdB w' w'.heap.size lb[q].A lb[q].n (s.cutB ds q)) => sameR_any (s.part (q : Int)) (s.part (q : Int)) w'.heap.size la[q].n la[q].c w'.heap.size lb[q].n lb[q].c la[q].A lb[q].A (s.cutB bs q) (s.cutB ds q) w' r1 r2 (Nat.le_refl _) (Nat.le_refl _))
          rw [decide_eq_true rfl, Bool.true_and] at HRk
          have fr : ∀ j, wc.frozen? ⟨ga, j, none⟩ = false := HI.out.oa.fr
          obtain ⟨e0, e1, e2, e3, e4⟩ := HE
          obtain ⟨f0, f1, f2, f3, f4⟩ := HG
          have HOK := Lib.hid (RdR.mixed (w := wc) (base := w.heap.size + 2) (base' := w.heap.size + 2) hkb (by rw [HLA.out, HLB.out]) (la := la) (lb := lb) (s := s) (bs := bs) (ds := ds) (g := ga) (c := ca))
          have HSB := Lib.hid sb
          generalize hpp : s.part (q : Int) = p at e0 e1 e2 e3 f0 f1 f2 f3
          have HPP := Lib.hid hpp
          clear ra rb sa sb ba bb la1 la2 lb1 lb2 hpp HRk
          go_upto_region 20 with (fail)
          have hoa : ownR wc (w.heap.size + 2) (.slice (some ⟨ga, 0, none⟩) la.length ca) la := by rw [HLA.out]; exact HI.out.oa
          have hs := hoa.set hka lb[q]
          rw [HSB.out, HPP.out] at hs
          have hgr := grown_setCell5 wc ga (q * 5) (q * 5 + 1) (q * 5 + 2) (q * 5 + 3) (q * 5 + 4) (.int .i64 p.w) (.int .i64 p.h) (.int .i64 p.c) (.int .i64 p.d) (.slice lb[q].A lb[q].n lb[q].c)
          have hgaw : w.heap.size + 2 ≤ ga := by omega
          have hB5 := HI.out.b.trans (below_grown hgr HI.out.b.size (by omega))
          have c15 := kG5 HI.out.c1 hgr (by omega)
          have hta5 := HI.out.ta.grown HI.out.oa hgr
          have htb5 := HI.out.tb.grown HI.out.oa hgr
          have hob5 := HI.out.ob.kept hgr (.inr (by intro e; have e2 : gb = ga := (by injection e); omega))
          have rda := HOK.out
          clear rda
          obtain ⟨lca, lcm⟩ : k ≤ ca ∧ ca ≤ maxLen := by obtain ⟨-, -, -, -, -, -, -, h8, h9⟩ := own_at HI.out.oa HI.out.ta hka; exact ⟨h8, h9⟩
          clear hoa HOK e0 e1 e2 e3 e4 f0 f1 f2 f3 f4 fr hBe
          generalize (((((wc.setCell ⟨ga, q * 5, none⟩ (.int .i64 p.w)).setCell ⟨ga, q * 5 + 1, none⟩ (.int .i64 p.h)).setCell ⟨ga, q * 5 + 2, none⟩ (.int .i64 p.c)).setCell ⟨ga, q * 5 + 3, none⟩ (.int .i64 p.d)).setCell ⟨ga, q * 5 + 4, none⟩ (.slice lb[q].A lb[q].n lb[q].c)) = w8 at hs hgr hB5 c15 hta5 htb5 hob5 ⊢
          have rda := RdR.mixed hkb (by rw [HLA.out, HLB.out]) hs hta5 htb5
          rw [HLA.out] at rda
          obtain ⟨Ab, cb', eb, rdb, -, -⟩ := hob5.rd htb5
          injection eb with eb1 eb2 eb3
          subst eb1
          rw [HLB.out] at rdb
          obtain ⟨mE, mS, mL, mC⟩ := mix_fit HMB.out HDL.out HAC.out HBC.out hkb
          have HJ2 := Lib.hid (fun (w' : World) (h : RdR w' w'.heap.size (some ⟨ga, 0, none⟩) k (la.set q lb[q])) => HJ.out w' (some ⟨ga, 0, none⟩) ca (la.set q lb[q]) h lca lcm)
          rw [mE, mS] at HJ2
          generalize (s.joinR (la.set q lb[q])).2 = X at HJ2 mL mC
          have HXL := Lib.hid (mL.trans HNN.out)
          have HXC := Lib.hid mC
          have HTT := Lib.hid (fun j (hj : j < k) => (HBC.out.2 j (by rw [HLB.out]; exact hj)))
          clear hs hgr hta5 htb5 hob5 mE mS mL mC eb2 eb3 HI
          have c1 := c15
          have hB := hB5
          clear c15 hB5
          (try dsimp only [Sh.r, Sh.v] at HJ2)
          go_wp2_with (first
            | (go_at_call 31; (with_reducible refine (HJ2.out _ rda).mono ?_); go_must (rintro e w9 ⟨A2, n2, c2, rfl, hx, hb1⟩; have rX := hx.rd; obtain ⟨A3, c3, e3, -, lx1, lx2⟩ := hx.form; injection e3 with e31 e32 e33; subst e33; have hxl := HXL.out; rw [hxl] at e32 lx1; subst e32; replace rdb := rdb.later hb1; replace hB := bstep hB hb1 (Nat.le_refl _); clear hx hb1 rda e31 hxl))
            | (go_at_call 26; (with_reducible refine (HC3.out _ _ _ X (RdB.here (rX.alloc (Nat.le_refl _) _)) lx1 lx2).mono ?_); go_must (rintro e w10 ⟨v, lc, rfl, hO, hlen, hT, hb1⟩; have hb2 := bxd hb1; replace rdb := rdb.later hb2; replace hB := bstep hB hb2 (Nat.le_refl _); rw [HNt.out] at hlen; have HCC := Lib.hid (AsCut.of (by rw [HNt.out]; exact hlen) hT); obtain ⟨Ac, cc, rfl, rdc, -, -⟩ := hO.rd hT; rw [hlen] at rdc ⊢; have HLC := Lib.hid hlen; clear hO hT hlen hb1 hb2)))
          go_loopw [17, 18] (fun c i wr => ∃ j : Nat, j ≤ k ∧ i = .int .i64 j ∧ c = .int .i64 (diffM s bs ds q j) ∧ RdR wr wr.heap.size Ac k lc ∧ RdR wr wr.heap.size (some ⟨gb, 0, none⟩) k lb ∧ Below w.heap.size w wr)
            (fun _ i _ => k - (intOf i).toNat)
          case atStart => exact ⟨0, Nat.zero_le _, rfl, rfl, rdc, rdb, hB⟩
          case round =>
            clear rdc rdb hB
            obtain ⟨j, hj, rfl, rfl, rdc, rdb, hB⟩ := hrel
            have hdj := diffM_le s bs ds q j
            by_cases hlt : j < k
            · have hjc : j < lc.length := by rw [HLC.out]; exact hlt
              have hjb : j < lb.length := by rw [HLB.out]; exact hlt
              obtain ⟨b1, o1, rfl, -, HE⟩ := rdc.cell5 hjc
              obtain ⟨b2, o2, e2, -, HG⟩ := rdb.cell5 hjb
              injection e2 with e2
              injection e2 with e21 e22
              subst e21 e22
              rw [Nat.zero_add] at HG
              obtain ⟨sa, ba, -⟩ := HCC.out.2 j hjc
              obtain ⟨sb, bb, -⟩ := HTT.out j hlt
              have ra := (rdc.2 lc[j] (List.getElem_mem hjc)).1
              have rb := (rdb.2 lb[j] (List.getElem_mem hjb)).1
              rw [ba] at ra
              rw [bb] at rb
              unfold Cell5 at HE HG
              rw [sa] at HE
              rw [sb] at HG
              have HRk := Lib.hid (fun (w' : World) (r1 : RdB w' w'.heap.size lc[j].A lc[j].n (s.cutB X j)) (r2 : RdB w' w'.heap.size lb[j].A lb[j].n (s.cutB ds j)) => sameR_any (s.part (j : Int)) (s.part (j : Int)) w'.heap.size lc[j].n lc[j].c w'.heap.size lb[j].n lb[j].c lc[j].A lb[j].A (s.cutB X j) (s.cutB ds j) w' r1 r2 (Nat.le_refl _) (Nat.le_refl _))
              rw [decide_eq_true rfl, Bool.true_and] at HRk
              generalize s.part (j : Int) = pj at HE HG HRk
              generalize lc[j].A = xA at HE ra HRk
              generalize lc[j].n = xn at HE ra HRk
              generalize lc[j].c = xc at HE HRk
              generalize lb[j].A = yA at HG rb HRk
              generalize lb[j].n = yn at HG rb HRk
              generalize lb[j].c = yc at HG HRk
              have HQ : Hid (diffM s bs ds q (j + 1) = diffM s bs ds q j + if s.cutB X j == s.cutB ds j then 0 else 1) := (show _ = _ by rw [HXC.out j hjb]; rfl)
              generalize (s.cutB X j == s.cutB ds j) = be at HRk HQ
              clear sa sb ba bb hjc hjb
              obtain ⟨e0, e1, e2, e3, e4⟩ := HE
              obtain ⟨f0, f1, f2, f3, f4⟩ := HG
              dsimp only [Sh.r] at HRk
              have raD : RdB wr.drew wr.drew.heap.size xA xn (s.cutB X j) := ra
              have rbD : RdB wr.drew wr.drew.heap.size yA yn (s.cutB ds j) := rb
              go_upto_region 26 with (fail)
              go_cut [155] (fun v wc => v = .bool (!be) ∧ Below wr.heap.size wr wc)
              case first =>
                go_region_with (first
                  | (go_at_call 30; (first | with_reducible refine (HRk.out _ raD rbD).mono ?_ | with_reducible refine (HRk.out _ ra rb).mono ?_); go_must (rintro e w5 ⟨rfl, hb5⟩)))
                all_goals
                  go_wp2_with fail
                  go_meet
                  case rel => exact ⟨rfl, (by first | with_reducible exact hb5 | with_reducible exact bstep (Below.drew (Below.refl _ _)) hb5 (Nat.le_refl _))⟩
              case rest =>
                obtain ⟨rfl, hbr⟩ := hcut
                replace rdc := rdc.later hbr
                replace rdb := rdb.later hbr
                replace hB := bstep hB hbr (Nat.le_refl _)
                clear e0 e1 e2 e3 e4 f0 f1 f2 f3 f4 ra rb raD rbD hbr
                cases be with
                | true =>
                  go_wp2_with fail
                  go_roundw
                  case rel => exact ⟨j + 1, by omega, by go_num, by rw [HQ.out]; rfl, rdc, rdb, hB⟩
                  case measure => simp [intOf]; omega
                | false =>
                  go_wp2_with fail
                  go_roundw
                  case rel => exact ⟨j + 1, by omega, by go_num, by rw [HQ.out]; simp, rdc, rdb, hB⟩
                  case measure => simp [intOf]; omega
            · obtain rfl : j = k := by omega
              have hMD : (((diffM s bs ds q j : Nat) : Int) == (D : Int) - 1) = true := by
                have := diffM_eq hqq j
                rw [if_pos hqk, ← HD.out] at this
                simp
                omega
              have hD1 : 1 ≤ D := by
                have := diffM_eq hqq j
                rw [if_pos hqk, ← HD.out] at this
                omega
              generalize diffM s bs ds q j = M at hMD hdj
              go_wp2_with (go_at_call 15; (with_reducible refine (first10_any _).mono ?_); go_must (rintro e w7 ⟨rfl, hb7⟩; replace hB := bstep hB hb7 (Nat.le_refl _)))
              go_ret
              exact ⟨ret_bool (by first | rfl | simp), hB⟩

theorem tileOnes_walk (s t : Sh) (A : Option Addr) (n a : Nat) (A' : Option Addr) (n' a' : Nat) (z : Int) (bs ds : List UInt8) (w : World) (h1 : RdB w w.heap.size A n bs) (h2 : RdB w w.heap.size A' n' ds) (l1 : n ≤ a) (m1 : a ≤ maxLen) (l2 : n' ≤ a') (m2 : a' ≤ maxLen) :
    Calls Try.prog 8 #[s.r A n a, t.r A' n' a', .int .i64 z] w fun e w' => e = .returned (.bool true) ∧ Below w.heap.size w w' := by
  by_cases h : n ≤ 20000 ∧ n' ≤ 20000 ∧ s.mayR n = true ∧ t.mayR n' = true ∧ s = t
  · obtain ⟨q1, q2, q3, q4, rfl⟩ := h
    exact tileOnes_main s A n a A' n' a' z bs ds w h1 h2 l1 m1 l2 m2 q1 q2 q3 q4
  · exact tileOnes_early s t A n a A' n' a' z w h

end Go.Proofs.Ytcgpeijmmongoaa
