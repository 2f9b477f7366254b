/- A disk: Write, while no fall is set: the walk. -/
import Derived.Test.YtommepmeohaijaaDisk6
namespace Go.Proofs.Ytommepmeohaijaa
set_option linter.all false
open Go.RowKit Go.Maps

theorem Arr.grO {w w' : World} {g : Nat} {cs : List Value} {row : Option Nat} (h : Arr w g cs) (hb : w.grownBy w' row) (hg : row ≠ some g) : Arr w' g cs := by
  have hl := h.lt
  obtain ⟨t, h⟩ := h
  exact ⟨t, (hb.block g hl (fun e => hg e.symm)).trans h⟩
def writeS (s : Dk) (k : Int) (bs : Bs) : Dk := if wrongD s k = 0 then { s with writes := s.writes + 1, pend := s.pend ++ [(k.toNat, bs)], now := updR s.now k.toNat bs } else s
theorem wrongD_zero {s : Dk} {k : Int} (h0 : wrongD s k = 0) : 0 ≤ k ∧ k < s.n ∧ s.down = false := by
  unfold wrongD at h0
  by_cases hd : s.down = true
  · rw [if_pos hd] at h0; cases h0
  · rw [if_neg hd] at h0
    by_cases hk : k < 0 ∨ (s.n : Int) ≤ k
    · rw [if_pos hk] at h0; cases h0
    · exact ⟨by omega, by omega, by simpa using hd⟩

set_option maxRecDepth 100000 in
set_option maxHeartbeats 3200000 in
theorem writeD_any (lo d : Nat) (h : Hn) (s : Dk) (k : Int) (c : Nat) (A : Option Addr) (bs : Bs) (w : World) (H : DkOk w lo d h s) (hlo : lo ≤ w.heap.size) (hr : RowAt w (h.T d) A 256 bs) (hf : s.falls = 0) (hwr : s.writes ≤ 1000000000) (hp : s.pend.length ≤ 1000000) (hU : ∀ g, ¬ h.U g) :
    Calls Try.prog 10 #[.pointer (some ⟨d, 0, none⟩), .int .i64 k, .slice A 256 c] w fun e w' => e = .returned (.int .i64 (wrongD s k)) ∧ ∃ h', DkOk w' lo d h' (writeS s k bs) ∧ Fr (h.T d) w w' ∧ TT w (h.T d) (h'.T d) ∧ h'.U = h.U := by
  have HW := Lib.hid (wrongD_any lo d h s k w H.arr)
  have hlen := hr.1
  by_cases h0 : wrongD s k = 0
  · obtain ⟨k1, k2, k3⟩ := wrongD_zero h0
    obtain ⟨q, rfl⟩ := Int.eq_ofNat_of_zero_le k1
    have hq : q < 4096 := by have := H.size; omega
    have HS : Hid (writeS s (q : Int) bs = { s with writes := s.writes + 1, pend := s.pend ++ [(q, bs)], now := updR s.now q bs }) := (show _ = _ by unfold writeS; rw [if_pos h0]; rfl)
    rw [h0] at HW ⊢
    clear h0 k1 k2 k3
    have c4 := H.arr.cell (k := 4) rfl
    have f4 := H.arr.frozen 4
    obtain ⟨H1, F1⟩ := H.cell 4 (.int .i64 ((s.writes : Int) + 1)) (s' := { s with writes := s.writes + 1 }) rfl rfl rfl rfl rfl rfl
    have HH1 := Lib.hid H1
    have HF1 := Lib.hid F1
    have hpl : h.pl.length ≤ 1000000 := by rw [H.pr.1]; exact hp
    have HR := Lib.hid hr
    have HLO := Lib.hid hlo
    have HTL := Lib.hid (H.freshS hU)
    clear H H1 F1 hr hp hlo
    go_enter Try.func10, Try.ntmps10
    go_upto_region 7 with (go_at_call 35; (with_reducible refine HW.out.mono ?_); go_must (rintro e w1 ⟨rfl, rfl⟩))
    generalize hW1 : w.setCell ⟨d, 4, none⟩ (.int .i64 ((s.writes : Int) + 1)) = W1 at *
    have HR1 := Lib.hid (HR.out.fr HF1.out (TT.refl _ _))
    have hs1 : w.heap.size ≤ W1.heap.size := HF1.out.size
    have hlo1 : lo ≤ W1.heap.size := Nat.le_trans HLO.out hs1
    have HC := Lib.hid (fun (w' : World) (hb : Below W1.heap.size W1 w') => secClone_any 256 c A bs (h.S d) w' (HR1.out.2.2.later hb) hlen (fun g hg => HTL.out g (Nat.le_trans (Nat.le_trans hs1 hb.size) hg)))
    have c3 := HH1.out.arr.cell (k := 3) rfl
    have HA1 := Lib.hid HH1.out.arr
    have HPD : Hid (h.pv.ownBlock ≠ some d) := (show _ ≠ _ from fun e => (HH1.out.pne d e).1 rfl)
    clear c4 f4 HW hW1 HLO
    go_cut [] (fun wx => ∃ h2, DkOk wx lo d h2 { s with writes := s.writes + 1, pend := s.pend ++ [(q, bs)] } ∧ Fr (h.T d) W1 wx ∧ TT W1 (h.T d) (h2.T d) ∧ h2.U = h.U)
    case first =>
      have hX := Below.refl W1.heap.size W1
      go_region_law (first
        | (refine step_appendH rfl (.tmp 28) (.tmp 33) rfl lo h.pv h.pl rfl ((HH1.out.own.later HB5.out).alloc _) (w5.heap.size + 1) 1 1 (some ⟨w5.heap.size, 0, none⟩) [chE q (g5, c5)] rfl (rd_oneH w5 (chE q (g5, c5)) _ _) (by omega) (by simp only [World.size_alloc]; omega) ?_; intro v7 w7 h7 hg7 hb7 hat7; obtain ⟨A7, cc7, e7, hr7, -, -⟩ := h7.form; obtain ⟨n7, hn7⟩ : ∃ n7, n7 = (h.pl ++ [chE q (g5, c5)]).length := ⟨_, rfl⟩; rw [← hn7] at e7; subst e7; clear hn7; have H7 := Lib.hid h7; have HG7 := Lib.hid hg7; have HAT7 := Lib.hid hat7; have hA7 := ((HA1.out.later HB5.out).alloc _).grO hg7 HPD.out; have c37 := hA7.cell (k := 3) rfl; have f37 := hA7.frozen 3; clear h7 hg7 hb7 hat7 hr7 hA7)
        | (go_simp; go_at_call 36; (with_reducible refine (HC.out _ ?_).mono ?_); (first | exact hX | exact Below.drew hX); go_must (rintro e w5 ⟨g5, c5, rfl, hs5, hlo5, hb5⟩; have HS5 := Lib.hid hs5; have HB5 := Lib.hid (show Below W1.heap.size W1 w5 by first | exact hb5 | exact bstep (Below.drew hX) hb5 (Nat.le_refl _)); have c35 := (HA1.out.later HB5.out).cell (k := 3) rfl; have sz5 := HB5.out.size; have hd5 := (HA1.out.later HB5.out).lt; have hd5n := Nat.ne_of_lt hd5; clear hs5 hb5)))
      all_goals
        go_wp2_with fail
        go_meet
        case rel =>
          obtain ⟨q1, q2, q3⟩ := DkOk.pushed HH1.out HB5.out _ hq HS5.out H7.out HG7.out HAT7.out
          exact ⟨_, q1, q2, q3, rfl⟩
    case rest =>
    obtain ⟨h2, H2, F2, T2, U2⟩ := hcut
    have HF2 := Lib.hid (HF1.out.trans F2)
    have HT2 : Hid (TT w (h.T d) (h2.T d)) := (show TT _ _ _ from (TT.refl _ _).trans T2 hs1)
    have HR2 := Lib.hid (HR1.out.fr F2 T2)
    have HH2 := Lib.hid H2
    have c5 := H2.arr.cell (k := 5) (v := .int .i64 (s.falls : Int)) rfl
    rw [hf] at c5
    have c1 := H2.arr.cell (k := 1) rfl
    obtain ⟨r, hm, hr1, hr2⟩ := H2.now
    have HM := Lib.hid hm
    have HR1' := Lib.hid hr1
    have HR2' := Lib.hid hr2
    have HC2 := Lib.hid (fun (w' : World) (hb : Below wc.heap.size wc w') => secClone_any 256 c A bs (h2.S d) w' (HR2.out.2.2.later hb) hlen (fun g hg => H2.freshS (by rw [U2]; exact hU) g (Nat.le_trans hb.size hg)))
    clear H2 F2 T2 HC HA1 HPD c3 HH1 HF1 HR HTL HR1 HR2 hr1 hr2 hm
    go_upto_region 13 with fail
    have hX := Below.refl wc.heap.size wc
    go_region_law (first
      | (go_simp; go_at_call 36; (with_reducible refine (HC2.out _ ?_).mono ?_); (first | exact hX | exact Below.drew hX); go_must (rintro e w9 ⟨g9, c9, rfl, hs9, hlo9, hb9⟩; have HS9 := Lib.hid hs9; have HB9 := Lib.hid (show Below wc.heap.size wc w9 by first | exact hb9 | exact bstep (Below.drew hX) hb9 (Nat.le_refl _)); have c19 := (HH2.out.arr.later HB9.out).cell (k := 1) rfl; obtain ⟨w6, hrun, hm6, hg6⟩ := (HM.out.later HB9.out).store hq (g9, c9); have HM6 := Lib.hid hm6; have HG6 := Lib.hid hg6; unfold sv at hrun; dsimp only at hrun; clear hs9 hb9 hm6 hg6)))
    all_goals
      go_wp2_with fail
      go_ret
      have F6 : Fr (fun g => g = h2.nb) wc w6 := (Fr.of _ HB9.out).trans (Fr.gro HG6.out rfl)
      have F6T : Fr (h2.T d) wc w6 := F6.mono (fun g e => .inr (.inl e))
      have hn := secs.put HR1'.out HR2'.out F6T.S (HS9.out.fr (Fr.gro HG6.out (.inl (.inr (.inl rfl)))) (TT.refl _ _)) HM6.out
      have hd2 := HH2.out.dur.fr F6T.S (TT.refl _ _) (F6.block _ HH2.out.dur.lt (fun e => HH2.out.ne3 e.symm))
      obtain ⟨q1, q2⟩ := HH2.out.mapped h2.nb F6 (.inl rfl) { s with writes := s.writes + 1, pend := s.pend ++ [(q, bs)], now := updR s.now q bs } hn hd2 rfl rfl rfl rfl
      exact ⟨rfl, h2, by rw [HS.out]; exact q1, HF2.out.trans2 HT2.out q2, HT2.out, U2⟩
  · have hs : writeS s k bs = s := by unfold writeS; rw [if_neg h0]
    rw [hs]
    have hb : (wrongD s k != 0) = true := by simpa using h0
    have HH := Lib.hid H
    clear H h0 hs
    generalize wrongD s k = E at *
    go_enter Try.func10, Try.ntmps10
    go_wp2_with (go_at_call 35; (with_reducible refine HW.out.mono ?_); go_must (rintro e w1 ⟨rfl, rfl⟩))
    go_ret
    exact ⟨rfl, h, HH.out, Fr.refl _ _, TT.refl _ _, rfl⟩
end Go.Proofs.Ytommepmeohaijaa
