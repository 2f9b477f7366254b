/- XMcDiffBests -/
import Derived.Test.YteoolehdomjkkaaGreatMce02
import Derived.Test.YteoolehdomjkkaaGreatMc31
namespace Go.Proofs.YteoolehdomjkkaaGreat
set_option linter.all false
open Go.RowKit

theorem packK5_any (B n c : Nat) (A : Option Addr) (bs : List UInt8) (w : World) (h : RdB w B A n bs) (hB : B ≤ w.heap.size) (hn : n ≤ 40000) :
    Calls Tryz.prog 33 #[.slice A n c] w fun e w' => ∃ v l, e = .returned (.tuple #[v, .int .i64 0]) ∧ ownB w' w.heap.size v l ∧ PK bs l ∧ Below w.heap.size w w' := by
  obtain ⟨S, hS, hS4⟩ := big4 (adler_lt bs)
  refine (pack5_any B n c A bs S w h hB hn hS hS4).mono ?_
  rintro e w' ⟨v, bz, he, ho, hw, hb⟩
  exact ⟨v, _, he, ho, ⟨bz, S, rfl, hw, big4b0 (adler_lt bs) hS⟩, hb⟩
/-- What Best answers. -/
def BestV (s t : Sh) (bs rs : List UInt8) (K : Int) (l : List UInt8) (E : Int) : Prop :=
  (wrongR s t bs.length rs.length = 0 ∧ E = 0 ∧ ∃ l1 l2, PK (deltaB 1 bs rs) l1 ∧ PK (deltaB 2 bs rs) l2 ∧ K = (pickK l1 l2).1 ∧ l = (pickK l1 l2).2) ∨ (wrongR s t bs.length rs.length ≠ 0 ∧ E = wrongR s t bs.length rs.length ∧ K = 0 ∧ l = [])
theorem BestV.uniq {s t : Sh} {bs rs l l' : List UInt8} {K E K' E' : Int} (h : BestV s t bs rs K l E) (h' : BestV s t bs rs K' l' E') : K' = K ∧ l' = l ∧ E' = E := by
  rcases h with ⟨h0, rfl, l1, l2, k1, k2, rfl, rfl⟩ | ⟨h0, rfl, rfl, rfl⟩
  · rcases h' with ⟨-, rfl, m1, m2, j1, j2, rfl, rfl⟩ | ⟨h1, -⟩
    · rw [j1.uniq k1, j2.uniq k2]; exact ⟨rfl, rfl, rfl⟩
    · exact absurd h0 h1
  · rcases h' with ⟨h1, -⟩ | ⟨-, rfl, rfl, rfl⟩
    · exact absurd h1 h0
    · exact ⟨rfl, rfl, rfl⟩

set_option maxHeartbeats 1600000 in
theorem best_bad (s t : Sh) (n c n' c' : Nat) (A A' : Option Addr) (w : World) (E : Int) (hE : wrongR s t n n' = E) (h0 : E ≠ 0) :
    Calls Tryz.prog 8 #[s.r A n c, t.r A' n' c'] w fun e w' => e = .returned (.tuple #[.int .i64 0, .slice none 0 0, .int .i64 E]) ∧ Below w.heap.size w w' := by
  have hB := Below.refl w.heap.size w
  have H1 := Lib.hid (fun w => wrongDf_any s t n c n' c' A A' w)
  have hne : (E != 0) = true := by simpa using h0
  have HE := Lib.hid hE
  clear hE h0
  obtain ⟨W, H, C, D⟩ := s
  obtain ⟨tW, tH, tC, tD⟩ := t
  dsimp only [Sh.r] at H1
  show Calls _ _ #[.agg #[.int .i64 W, .int .i64 H, .int .i64 C, .int .i64 D, .slice A n c], .agg #[.int .i64 tW, .int .i64 tH, .int .i64 tC, .int .i64 tD, .slice A' n' c']] w _
  go_enter Tryz.func8, Tryz.ntmps8
  go_wp2_with (first
    | (go_at_call 39; (with_reducible refine (H1.out _).mono ?_); go_must (rintro e w1 ⟨rfl, hb1⟩; rw [HE.out]; have c2 := box5 hb1; rw [World.size_alloc] at c2; replace hb1 := bxd hb1; have c1 := box5 hb1; replace hB := bxd hb1; clear hb1)))
  go_ret3
  exact ⟨rfl, hB⟩
set_option maxHeartbeats 1600000 in
theorem best9_bad (s t : Sh) (B n c B' n' c' : Nat) (A A' : Option Addr) (bs rs : List UInt8) (w : World) (hp : RdB w B A n bs) (hr : RdB w B' A' n' rs) (hB1 : B ≤ w.heap.size) (hB2 : B' ≤ w.heap.size) (E : Int) (hE : wrongR s t bs.length rs.length = E) (h0 : E ≠ 0) :
    Calls Tryz.prog 9 #[s.r A n c, t.r A' n' c'] w fun e w' => e = .returned (.tuple #[.int .i64 0, .slice none 0 0, .int .i64 E]) ∧ Below w.heap.size w w' := by
  have hB := Below.refl w.heap.size w
  have HK := Lib.hid (fun (w' : World) (hb : Below w.heap.size w w') => delta9_any 1 s t B n c B' n' c' A A' bs rs w' (hp.blw (hb.mono hB1)) (hr.blw (hb.mono hB2)) (Nat.le_trans hB1 hb.size) (Nat.le_trans hB2 hb.size))
  have e1 : makeR 1 s t bs rs = ([], E) := by unfold makeR; rw [if_pos (.inl rfl), hE, if_neg h0]
  rw [e1] at HK
  have hne : (E != 0) = true := by simpa using h0
  clear hE h0 e1 hp hr
  obtain ⟨W, H, C, D⟩ := s
  obtain ⟨tW, tH, tC, tD⟩ := t
  dsimp only [Sh.r] at HK
  show Calls _ _ #[.agg #[.int .i64 W, .int .i64 H, .int .i64 C, .int .i64 D, .slice A n c], .agg #[.int .i64 tW, .int .i64 tH, .int .i64 tC, .int .i64 tD, .slice A' n' c']] w _
  go_enter Tryz.func9, Tryz.ntmps9
  go_wp2_with (first
    | (go_at_call 40; (with_reducible refine (HK.out _ ((hB.alloc hB.size _).alloc (by simp only [World.size_alloc]; have := hB.size; omega) _)).mono ?_); go_must (rintro e w1 ⟨v1, rfl, ho1, hb1⟩; clear ho1; have c2 := box5 hb1; rw [World.size_alloc] at c2; replace hb1 := bxd hb1; have c1 := box5 hb1; replace hB := bxd hb1; clear hb1)))
  go_ret3
  exact ⟨rfl, hB⟩
set_option maxRecDepth 100000 in
set_option maxHeartbeats 6400000 in
theorem best9_ok (s : Sh) (B n c B' c' : Nat) (A A' : Option Addr) (bs rs : List UInt8) (w : World) (hp : RdB w B A n bs) (hr : RdB w B' A' n rs)
    (hB1 : B ≤ w.heap.size) (hB2 : B' ≤ w.heap.size) (hm : s.mayR n = true) :
    Calls Tryz.prog 9 #[s.r A n c, s.r A' n c'] w fun e w' =>
      ∃ v l1 l2, e = .returned (.tuple #[.int .i64 (pickK l1 l2).1, v, .int .i64 0]) ∧ ownB w' w.heap.size v (pickK l1 l2).2 ∧ PK (deltaB 1 bs rs) l1 ∧ PK (deltaB 2 bs rs) l2 ∧ Below w.heap.size w w' := by
  have hB := Below.refl w.heap.size w
  have hz : wrongR s s bs.length rs.length = 0 := by unfold wrongR; rw [hp.len, hr.len, hm]; simp
  obtain ⟨-, -, -, -, hn16⟩ := wrongR_zero hz
  have hn16 : n ≤ 16384 := by rw [hp.len] at hn16; exact hn16
  have HK : Hid (∀ (k : Int) (hk : k = 1 ∨ k = 2) (w' : World) (hb : Below w.heap.size w w'), Calls Tryz.prog 40 #[.int .i64 k, s.r A n c, s.r A' n c'] w' fun e w'' => ∃ v, e = .returned (.tuple #[v, .int .i64 0]) ∧ ownB w'' w'.heap.size v (deltaB k bs rs) ∧ Below w'.heap.size w' w'') := (show ∀ k, _ from fun k hk w' hb => by
    have h := delta9_any k s s B n c B' n c' A A' bs rs w' (hp.blw (hb.mono hB1)) (hr.blw (hb.mono hB2)) (Nat.le_trans hB1 hb.size) (Nat.le_trans hB2 hb.size)
    have e1 : makeR k s s bs rs = (deltaB k bs rs, 0) := by unfold makeR; rw [if_pos hk, if_pos hz]
    rw [e1] at h
    exact h)
  have HL := Lib.hid (fun k => (deltaB_len (k := k) (bs := bs) (rs := rs) (by rw [hp.len, hr.len])).trans hr.len)
  have HP := Lib.hid (fun (b : List UInt8) (w' : World) (A : Option Addr) (c : Nat) (h : RdB w' w'.heap.size A n b) => packK5_any w'.heap.size n c A b w' h (Nat.le_refl _) (by omega))
  clear hz hm hp hr
  obtain ⟨W, H, C, D⟩ := s
  dsimp only [Sh.r, Sh.v] at HK
  show Calls _ _ #[.agg #[.int .i64 W, .int .i64 H, .int .i64 C, .int .i64 D, .slice A n c], .agg #[.int .i64 W, .int .i64 H, .int .i64 C, .int .i64 D, .slice A' n c']] w _
  go_enter Tryz.func9, Tryz.ntmps9
  go_upto_region 9 with (first
    | (go_at_call 40; (with_reducible refine (HK.out 1 (.inl rfl) _ ((hB.alloc hB.size _).alloc (by simp only [World.size_alloc]; have := hB.size; omega) _)).mono ?_); go_must (rintro e w1 ⟨v, rfl, hx, hb1⟩; obtain ⟨Ax, cx, rfl, rx, -, _⟩ := hx.form; clear hx; rw [HL.out 1] at rx ⊢; have c2 := box5 hb1; rw [World.size_alloc] at c2; replace hb1 := bxd hb1; have c1 := box5 hb1; replace hB := bxd hb1; clear hb1))
    | (go_at_call 40; (with_reducible refine (HK.out 2 (.inr rfl) _ hB).mono ?_); go_must (rintro e w2 ⟨v, rfl, hx, hb1⟩; obtain ⟨Ay, cy, rfl, ry, -, _⟩ := hx.form; clear hx; rw [HL.out 2] at ry ⊢; (try replace c1 := kept c1 rfl hb1); (try replace c2 := kept c2 rfl hb1); (try replace rx := rx.later hb1); replace hB := bstep hB hb1 (Nat.le_refl _); clear hb1))
    | (go_at_call 33; (with_reducible refine (HP.out _ _ _ _ rx).mono ?_); go_must (rintro e w3 ⟨v3, l1, rfl, ho3, hk3, hb1⟩; have HK1 := Lib.hid hk3; have HO1 := Lib.hid (ho3.mono hB.size); obtain ⟨A3, c3, rfl, -, -, -⟩ := ho3.form; clear ho3 hk3; (try replace c1 := kept c1 rfl hb1); (try replace c2 := kept c2 rfl hb1); (try replace ry := ry.later hb1); replace hB := bstep hB hb1 (Nat.le_refl _); clear hb1))
    | (go_at_call 33; (with_reducible refine (HP.out _ _ _ _ ry).mono ?_); go_must (rintro e w4 ⟨v4, l2, rfl, ho4, hk4, hb1⟩; have HK2 := Lib.hid hk4; have HO2 := Lib.hid (ho4.mono hB.size); obtain ⟨A4, c4, rfl, -, -, -⟩ := ho4.form; have HO11 := Lib.hid (HO1.out.later hb1); clear ho4 hk4; (try replace c1 := kept c1 rfl hb1); (try replace c2 := kept c2 rfl hb1); replace hB := bstep hB hb1 (Nat.le_refl _); clear hb1)))
  by_cases hlt : l2.length < l1.length
  · have hli : (l2.length : Int) < (l1.length : Int) := by omega
    have HPI : Hid (pickK l1 l2 = (2, l2)) := (show _ = _ from if_pos hlt)
    go_wp2_with fail
    go_ret3
    exact ⟨.slice A4 l2.length c4, l1, l2, (by rw [HPI.out] <;> rfl), (by rw [HPI.out]; exact HO2.out), HK1.out, HK2.out, hB⟩
  · have hli : ¬ (l2.length : Int) < (l1.length : Int) := by omega
    have HPI : Hid (pickK l1 l2 = (1, l1)) := (show _ = _ from if_neg hlt)
    go_wp2_with fail
    go_ret3
    exact ⟨.slice A3 l1.length c3, l1, l2, (by rw [HPI.out] <;> rfl), (by rw [HPI.out]; exact HO11.out), HK1.out, HK2.out, hB⟩
theorem bestG_any (s t : Sh) (B n c B' n' c' : Nat) (A A' : Option Addr) (bs rs : List UInt8) (w : World) (hp : RdB w B A n bs) (hr : RdB w B' A' n' rs) (hB1 : B ≤ w.heap.size) (hB2 : B' ≤ w.heap.size) :
    Calls Tryz.prog 8 #[s.r A n c, t.r A' n' c'] w fun e w' => ∃ K A1 l c1 E, e = .returned (.tuple #[.int .i64 K, .slice A1 l.length c1, .int .i64 E]) ∧ RdB w' w'.heap.size A1 l.length l ∧ BestV s t bs rs K l E ∧ Below w.heap.size w w' := by
  by_cases h0 : wrongR s t bs.length rs.length = 0
  · obtain ⟨hm, -, hst, hnn, -⟩ := wrongR_zero h0
    subst hst
    have hnn' : n = n' := by rw [← hp.len, ← hr.len]; exact hnn
    subst hnn'
    rw [hp.len] at hm
    refine (best_ok s B n c B' c' A A' bs rs w hp hr hB1 hB2 hm).mono ?_
    rintro e w' ⟨v, l1, l2, rfl, ho, k1, k2, hb⟩
    obtain ⟨A1, c1, rfl, r1, -, -⟩ := ho.form
    exact ⟨_, A1, _, c1, _, rfl, r1, .inl ⟨h0, rfl, l1, l2, k1, k2, rfl, rfl⟩, hb⟩
  · refine (best_bad s t n c n' c' A A' w _ (by rw [hp.len, hr.len]) h0).mono ?_
    rintro e w' ⟨rfl, hb⟩
    exact ⟨0, none, [], 0, _, rfl, rdB_nil0, .inr ⟨h0, rfl, rfl, rfl⟩, hb⟩
theorem best9G_any (s t : Sh) (B n c B' n' c' : Nat) (A A' : Option Addr) (bs rs : List UInt8) (w : World) (hp : RdB w B A n bs) (hr : RdB w B' A' n' rs) (hB1 : B ≤ w.heap.size) (hB2 : B' ≤ w.heap.size) :
    Calls Tryz.prog 9 #[s.r A n c, t.r A' n' c'] w fun e w' => ∃ K A1 l c1 E, e = .returned (.tuple #[.int .i64 K, .slice A1 l.length c1, .int .i64 E]) ∧ RdB w' w'.heap.size A1 l.length l ∧ BestV s t bs rs K l E ∧ Below w.heap.size w w' := by
  by_cases h0 : wrongR s t bs.length rs.length = 0
  · obtain ⟨hm, -, hst, hnn, -⟩ := wrongR_zero h0
    subst hst
    have hnn' : n = n' := by rw [← hp.len, ← hr.len]; exact hnn
    subst hnn'
    rw [hp.len] at hm
    refine (best9_ok s B n c B' c' A A' bs rs w hp hr hB1 hB2 hm).mono ?_
    rintro e w' ⟨v, l1, l2, rfl, ho, k1, k2, hb⟩
    obtain ⟨A1, c1, rfl, r1, -, -⟩ := ho.form
    exact ⟨_, A1, _, c1, _, rfl, r1, .inl ⟨h0, rfl, l1, l2, k1, k2, rfl, rfl⟩, hb⟩
  · refine (best9_bad s t B n c B' n' c' A A' bs rs w hp hr hB1 hB2 _ rfl h0).mono ?_
    rintro e w' ⟨rfl, hb⟩
    exact ⟨0, none, [], 0, _, rfl, rdB_nil0, .inr ⟨h0, rfl, rfl, rfl⟩, hb⟩

set_option maxRecDepth 100000 in
set_option maxHeartbeats 6400000 in
theorem diffBests_walk (s t : Sh) (A : Option Addr) (n a : Nat) (A' : Option Addr) (n' a' : Nat) (bs rs : List UInt8) (w : World) (h1 : RdB w w.heap.size A n bs) (h2 : RdB w w.heap.size A' n' rs) :
    Calls Tryz.prog 3 #[s.r A n a, t.r A' n' a'] w fun e w' => e = .returned (.bool true) ∧ Below w.heap.size w w' := by
  have hB := Below.refl w.heap.size w
  have HG := Lib.hid (fun (w' : World) (hb : Below w.heap.size w w') => bestG_any s t w.heap.size n a w.heap.size n' a' A A' bs rs w' (h1.blw hb) (h2.blw hb) hb.size hb.size)
  have HG9 := Lib.hid (fun (w' : World) (hb : Below w.heap.size w w') => best9G_any s t w.heap.size n a w.heap.size n' a' A A' bs rs w' (h1.blw hb) (h2.blw hb) hb.size hb.size)
  have HU : Hid (∀ K l E K' l' E', BestV s t bs rs K l E → BestV s t bs rs K' l' E' → K' = K ∧ l' = l ∧ E' = E) := (show ∀ K, _ from fun K l E K' l' E' h h' => h.uniq h')
  clear h1 h2
  generalize BestV s t bs rs = BV at *
  obtain ⟨W, H, C, D⟩ := s
  obtain ⟨tW, tH, tC, tD⟩ := t
  dsimp only [Sh.r, Sh.v] at HG HG9
  show Calls _ _ #[.agg #[.int .i64 W, .int .i64 H, .int .i64 C, .int .i64 D, .slice A n a], .agg #[.int .i64 tW, .int .i64 tH, .int .i64 tC, .int .i64 tD, .slice A' n' a']] w _
  by_cases h0 : n ≤ 2000
  · have i0 : ¬ (2000 : Int) < (n : Int) := by omega
    by_cases h1 : n' ≤ 2000
    · have i1 : ¬ (2000 : Int) < (n' : Int) := by omega
      go_enter Tryz.func3, Tryz.ntmps3
      go_wp2_with (first
        | (go_at_call 7; (with_reducible refine (first11_any _).mono ?_); go_must (rintro e w1 ⟨rfl, hb1⟩; first | (have _t := c1; (try replace c1 := kept c1 rfl hb1); (try replace c2 := kept c2 rfl hb1); (try replace r1 := r1.later hb1); (try replace r2 := r2.later hb1); replace hB := bstep hB hb1 (Nat.le_refl _); clear hb1) | (have c2 := box5 hb1; rw [World.size_alloc] at c2; replace hb1 := bxd hb1; have c1 := box5 hb1; replace hB := bxd hb1; clear hb1)))
        | (go_at_call 8; (with_reducible refine (HG.out _ hB).mono ?_); go_must (rintro e w2 ⟨K, A2, l, k2, E, rfl, r1, hv, hb1⟩; have HV := Lib.hid hv; clear hv; (try replace c1 := kept c1 rfl hb1); (try replace c2 := kept c2 rfl hb1); replace hB := bstep hB hb1 (Nat.le_refl _); clear hb1))
        | (go_at_call 9; (with_reducible refine (HG9.out _ hB).mono ?_); go_must (rintro e w3 ⟨K9, A3, l9, k3, E9, rfl, r2, hv, hb1⟩; obtain ⟨e1, e2, e3⟩ := HU.out _ _ _ _ _ _ HV.out hv; subst e1 e2 e3; clear hv; (try replace c1 := kept c1 rfl hb1); (try replace c2 := kept c2 rfl hb1); (try replace r1 := r1.later hb1); replace hB := bstep hB hb1 (Nat.le_refl _); clear hb1))
        | (go_at_call 10; (with_reducible refine (bytes_any _ _ _ _ _ _ _ _ _ _ _ r1 r2).mono ?_); go_must (rintro e w4 ⟨rfl, rfl⟩)))
      go_ret
      exact ⟨by first | rfl | simp, hB⟩
    · have i1 : (2000 : Int) < (n' : Int) := by omega
      go_enter Tryz.func3, Tryz.ntmps3
      go_wp2_with (first
        | (go_at_call 7; (with_reducible refine (first11_any _).mono ?_); go_must (rintro e w1 ⟨rfl, hb1⟩; first | (have _t := c1; (try replace c1 := kept c1 rfl hb1); (try replace c2 := kept c2 rfl hb1); (try replace r1 := r1.later hb1); (try replace r2 := r2.later hb1); replace hB := bstep hB hb1 (Nat.le_refl _); clear hb1) | (have c2 := box5 hb1; rw [World.size_alloc] at c2; replace hb1 := bxd hb1; have c1 := box5 hb1; replace hB := bxd hb1; clear hb1))))
      go_ret
      exact ⟨rfl, hB⟩
  · have i0 : (2000 : Int) < (n : Int) := by omega
    go_enter Tryz.func3, Tryz.ntmps3
    go_wp2_with (first
      | (go_at_call 7; (with_reducible refine (first11_any _).mono ?_); go_must (rintro e w1 ⟨rfl, hb1⟩; first | (have _t := c1; (try replace c1 := kept c1 rfl hb1); (try replace c2 := kept c2 rfl hb1); (try replace r1 := r1.later hb1); (try replace r2 := r2.later hb1); replace hB := bstep hB hb1 (Nat.le_refl _); clear hb1) | (have c2 := box5 hb1; rw [World.size_alloc] at c2; replace hb1 := bxd hb1; have c1 := box5 hb1; replace hB := bxd hb1; clear hb1))))
    go_ret
    exact ⟨rfl, hB⟩

end Go.Proofs.YteoolehdomjkkaaGreat

