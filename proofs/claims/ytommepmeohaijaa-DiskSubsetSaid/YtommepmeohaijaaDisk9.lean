/- A disk: Turn. -/
import Derived.Test.YtommepmeohaijaaDisk8
namespace Go.Proofs.Ytommepmeohaijaa
set_option linter.all false
open Go.RowKit Go.Maps

/-- A bit of a byte. -/
def bitM (t : Nat) : UInt8 := UInt8.ofNat (2 ^ t)
theorem bitM_nat {t : Nat} (h : t < 8) : (bitM t).toNat = 2 ^ t := by
  unfold bitM
  match t, h with
  | 0, _ => rfl
  | 1, _ => rfl
  | 2, _ => rfl
  | 3, _ => rfl
  | 4, _ => rfl
  | 5, _ => rfl
  | 6, _ => rfl
  | 7, _ => rfl
def turnB (bs : Bs) (j : Nat) : Bs := bs.set (j / 8) (bs.getD (j / 8) 0 ^^^ bitM (j % 8))
theorem turnB_len (bs : Bs) (j : Nat) : (turnB bs j).length = bs.length := List.length_set
def goodT (s : Dk) (k at_ : Int) : Prop := 0 ≤ k ∧ k < s.n ∧ 0 ≤ at_ ∧ at_ < 2048 ∧ s.pend = []
instance (s : Dk) (k at_ : Int) : Decidable (goodT s k at_) := by unfold goodT; exact inferInstance
def turnS (s : Dk) (k at_ : Int) : Dk := { s with now := updR s.now k.toNat (turnB (getS s.now k.toNat) at_.toNat), dur := updR s.dur k.toNat (turnB (getS s.now k.toNat) at_.toNat) }

set_option maxRecDepth 100000 in
set_option maxHeartbeats 3200000 in
theorem turnD_bad (lo d : Nat) (h : Hn) (s : Dk) (k at_ : Int) (w : World) (H : DkOk w lo d h s) (hg : ¬ goodT s k at_) :
    Calls Try.prog 13 #[.pointer (some ⟨d, 0, none⟩), .int .i64 k, .int .i64 at_] w fun e w' => e = .returned (.bool false) ∧ w = w' := by
  have c0 := H.arr.cell (k := 0) (v := .int .i64 (s.n : Int)) rfl
  have c3 := H.arr.cell (k := 3) rfl
  obtain ⟨A0, cc0, e0, -⟩ := H.own.form
  have hpn : h.pn = s.pend.length := by rw [← H.pr.1]; unfold Hn.pv at e0; injection e0
  rw [hpn] at c3
  clear H e0 hpn A0 cc0
  unfold goodT at hg
  by_cases h1 : k < 0
  · have t1 : decide (k < 0) = true := decide_eq_true h1
    clear hg
    go_enter Try.func13, Try.ntmps13
    go_wp2_with fail
    go_ret
    exact ⟨rfl, rfl⟩
  have t1 : decide (k < 0) = false := decide_eq_false h1
  by_cases h2 : (s.n : Int) ≤ k
  · have t2 : decide (k ≥ (s.n : Int)) = true := decide_eq_true h2
    clear hg
    go_enter Try.func13, Try.ntmps13
    go_wp2_with fail
    go_ret
    exact ⟨rfl, rfl⟩
  have t2 : decide (k ≥ (s.n : Int)) = false := decide_eq_false h2
  by_cases h3 : at_ < 0
  · have t3 : decide (at_ < 0) = true := decide_eq_true h3
    clear hg
    go_enter Try.func13, Try.ntmps13
    go_wp2_with fail
    go_ret
    exact ⟨rfl, rfl⟩
  have t3 : decide (at_ < 0) = false := decide_eq_false h3
  by_cases h4 : 2048 ≤ at_
  · have t4 : decide (at_ ≥ (2048 : Int)) = true := decide_eq_true h4
    clear hg
    go_enter Try.func13, Try.ntmps13
    go_wp2_with fail
    go_ret
    exact ⟨rfl, rfl⟩
  have t4 : decide (at_ ≥ (2048 : Int)) = false := decide_eq_false h4
  have h5 : 0 < s.pend.length := by
    refine Nat.pos_of_ne_zero fun e => hg ⟨by omega, by omega, by omega, by omega, List.eq_nil_of_length_eq_zero e⟩
  have t5 : decide ((s.pend.length : Int) > 0) = true := decide_eq_true (by omega)
  clear hg
  go_enter Try.func13, Try.ntmps13
  go_wp2_with fail
  go_ret
  exact ⟨rfl, rfl⟩

theorem secAt_any2 (b k : Nat) (T : Nat → Prop) (f : Nat → Option Bs) (w : World) (h : secs w T b f) (hk : k < 4096) (hT : ∀ g, w.heap.size ≤ g → ¬ T g) :
    Calls Try.prog 37 #[.map (some b), .int .i64 (k : Int)] w fun e w' => ∃ g c, e = .returned (.slice (some ⟨g, 0, none⟩) 256 c) ∧ ownB w' w.heap.size (.slice (some ⟨g, 0, none⟩) 256 c) (getS f k) ∧ SecAt w' T (g, c) (getS f k) ∧ w.heap.size ≤ g ∧ Below w.heap.size w w' := by
  refine (secAt_any b k T f w h hk hT).mono ?_
  rintro e w' ⟨⟨g, c⟩, rfl, h1, h2, h3, h4⟩
  exact ⟨g, c, rfl, h1, h2, h3, h4⟩
set_option maxRecDepth 100000 in
set_option maxHeartbeats 3200000 in
theorem turnD_any (lo d : Nat) (h : Hn) (s : Dk) (k at_ : Int) (w : World) (H : DkOk w lo d h s) (hg : goodT s k at_) (hU : ∀ g, ¬ h.U g) :
    Calls Try.prog 13 #[.pointer (some ⟨d, 0, none⟩), .int .i64 k, .int .i64 at_] w fun e w' => e = .returned (.bool true) ∧ DkOk w' lo d h (turnS s k at_) ∧ Fr (h.T d) w w' := by
  obtain ⟨g1, g2, g3, g4, g5⟩ := hg
  obtain ⟨q, rfl⟩ := Int.eq_ofNat_of_zero_le g1
  obtain ⟨j, rfl⟩ := Int.eq_ofNat_of_zero_le g3
  have hq : q < 4096 := by have := H.size; omega
  have c0 := H.arr.cell (k := 0) (v := .int .i64 (s.n : Int)) rfl
  have c1 := H.arr.cell (k := 1) rfl
  have c3 := H.arr.cell (k := 3) rfl
  obtain ⟨A0, cc0, e0, -⟩ := H.own.form
  have hpn : h.pn = 0 := by
    have h1 := H.pr.1
    rw [g5] at h1
    unfold Hn.pv at e0
    injection e0 with _ e0 _
    rw [e0, h1]
    rfl
  rw [hpn] at c3
  have t1 : decide ((q : Int) < 0) = false := decide_eq_false (by omega)
  have t2 : decide ((q : Int) ≥ (s.n : Int)) = false := decide_eq_false (by omega)
  have t3 : decide ((j : Int) < 0) = false := decide_eq_false (by omega)
  have t4 : decide ((j : Int) ≥ (2048 : Int)) = false := decide_eq_false (by omega)
  have t2n : decide (s.n ≤ q) = false := decide_eq_false (by omega)
  have HA := Lib.hid (secAt_any2 h.nb q (h.S d) s.now w H.now hq (H.freshS hU))
  have HH := Lib.hid H
  have HTS : Hid (turnS s (q : Int) (j : Int) = { s with now := updR s.now q (turnB (getS s.now q) j), dur := updR s.dur q (turnB (getS s.now q) j) }) := (show _ = _ from rfl)
  clear H e0 hpn A0 cc0 g1 g2 g3 g5
  generalize getS s.now q = row at *
  go_enter Try.func13, Try.ntmps13
  go_upto_region 4 with (go_at_call 37; (with_reducible refine HA.out.mono ?_); go_must (rintro e w1 ⟨g, c, rfl, ho, hs, hlo, hb⟩; have HO := Lib.hid ho; have HSE := Lib.hid hs; have HB := Lib.hid hb; clear ho hs hb))
  obtain ⟨p, hp⟩ : ∃ p, p = j / 8 := ⟨_, rfl⟩
  obtain ⟨t, ht⟩ : ∃ t, t = j % 8 := ⟨_, rfl⟩
  have hq1 : (j : Int).tdiv 8 = (p : Int) := by rw [hp]; rfl
  have hq2 : (j : Int).tmod 8 = (t : Int) := by rw [ht]; rfl
  have hp2 : p < 256 := by omega
  have ht2 : t < 8 := by omega
  have hrl : row.length = 256 := HSE.out.1
  obtain ⟨x, hx⟩ : ∃ x, x = row.getD p 0 := ⟨_, rfl⟩
  have hpr : p < row.length := by omega
  have e1 := HO.out.cell (by omega) (k := p) hpr
  rw [show row[p] = x by rw [hx, List.getD_eq_getElem?_getD, List.getElem?_eq_getElem hpr]; rfl] at e1
  have f1 := HO.out.frozen (by omega) p
  have HXX := Lib.hid hx
  have HPP := Lib.hid hp
  have HTT := Lib.hid ht
  clear hx hp ht
  have hM : (2 : Int) ^ t % 256 = ((bitM t).toNat : Int) := by
    rw [bitM_nat ht2]
    match t, ht2 with
    | 0, _ => rfl
    | 1, _ => rfl
    | 2, _ => rfl
    | 3, _ => rfl
    | 4, _ => rfl
    | 5, _ => rfl
    | 6, _ => rfl
    | 7, _ => rfl
  have HMM := Lib.hid hM
  clear hM
  have HO2 := Lib.hid (HO.out.store (by omega) p (x ^^^ bitM t))
  go_cut [] (fun wx => wx = (w1.setCell ⟨g, p, none⟩ (.int .u8 ((x ^^^ bitM t).toNat : Int))).drew)
  case first =>
    go_region
    all_goals
      go_wp2_with fail
      rw [HMM.out, xor_u8]
      go_meet
      case rel => exact rfl
  case rest =>
  obtain rfl := hcut
  have HROW : Hid (row.set p (x ^^^ bitM t) = turnB row j) := (show _ = _ by unfold turnB; rw [← HPP.out, ← HTT.out, ← HXX.out])
  obtain ⟨W2, hW2⟩ : ∃ W2, W2 = (w1.setCell ⟨g, p, none⟩ (.int .u8 ((x ^^^ bitM t).toNat : Int))).drew := ⟨_, rfl⟩
  rw [← hW2]
  have hgT : ¬ h.S d g := HSE.out.2.2.2.1
  have hgl : g < w1.heap.size := HSE.out.2.2.2.2.1
  have HOW : Hid (ownB W2 w.heap.size (.slice (some ⟨g, 0, none⟩) 256 c) (turnB row j)) := (show ownB _ _ _ _ by rw [hW2, ← HROW.out]; exact HO2.out.drew)
  have HB2 : Hid (Below w.heap.size w W2) := (show Below _ _ _ by rw [hW2]; exact (HB.out.setCell (p := ⟨g, p, none⟩) hlo _).drew)
  have HK : Hid (DkOk W2 lo d h s) := HH.out.later HB2.out
  have hTL : ∀ z, w.heap.size ≤ z → ¬ h.S d z := HH.out.freshS hU
  have HSB : Hid (SecAt W2 (h.S d) (g, c) (turnB row j)) := by
    obtain ⟨u, e, hs, -⟩ := SecAt.new HOW.out (by rw [turnB_len]; exact hrl) hTL
    unfold sv at e
    injection e with e1 _ e2
    injection e1 with e1
    injection e1 with e1
    obtain ⟨u1, u2⟩ := u
    dsimp only at e1 e2
    subst e1 e2
    exact hs
  have HC := Lib.hid (fun (w' : World) (hb : Below W2.heap.size W2 w') => secClone_any 256 c (some ⟨g, 0, none⟩) (turnB row j) (h.S d) w' (HSB.out.rd.later hb) (by rw [turnB_len]; exact hrl) (fun z hz => hTL z (Nat.le_trans (Nat.le_trans HB2.out.size hb.size) hz)))
  obtain ⟨r, hm, hr1, hr2⟩ := HK.out.now
  obtain ⟨r', hm', hr1', hr2'⟩ := HK.out.dur
  have HM := Lib.hid hm
  have HM2 := Lib.hid hm'
  have HR1 := Lib.hid hr1
  have HR2 := Lib.hid hr2
  have HR1' := Lib.hid hr1'
  have HR2' := Lib.hid hr2'
  have c1' := HK.out.arr.cell (k := 1) rfl
  have c2' := HK.out.arr.cell (k := 2) rfl
  have hX := Below.refl W2.heap.size W2
  clear hW2 hm hm' hr1 hr2 hr1' hr2' HO HO2 HB HSE HA e1 f1 HXX HPP HTT HMM HROW c0 c1 c3 t1 t2 t2n t3 t4 hq1 hq2 hp2 ht2
  have hne3 := HK.out.ne3
  go_upto_region 5 with fail
  go_region_law (first
    | (go_simp; go_at_call 36; (with_reducible refine (HC.out _ ?_).mono ?_); (first | exact hX | exact Below.drew hX); go_must (rintro e w5 ⟨g5, c5, rfl, hs5, hlo5, hb5⟩; have HS5 := Lib.hid hs5; have HB5 := Lib.hid (show Below W2.heap.size W2 w5 by first | exact hb5 | exact bstep (Below.drew hX) hb5 (Nat.le_refl _)); have c15 := (HK.out.arr.later HB5.out).cell (k := 1) rfl; have c25 := (HK.out.arr.later HB5.out).cell (k := 2) rfl; obtain ⟨v0, st, w6, hrun1, hg6, hst⟩ := (HM.out.later HB5.out).entry hq; obtain ⟨w7, hrun2, hm7, hg7⟩ := hst w6 rfl (g, c); have hmD : isMap w7 h.db r' := (HM2.out.later HB5.out).keep ((hg7.block h.db (Nat.lt_of_lt_of_le (HM2.out.later HB5.out).lt hg6.size) (fun e => hne3 (by injection e with e; exact e.symm))).trans (hg6.block h.db (HM2.out.later HB5.out).lt (fun e => hne3 (by injection e with e; exact e.symm)))); obtain ⟨v0', st', w8, hrun3, hg8, hst'⟩ := hmD.entry hq; obtain ⟨w9, hrun4, hm9, hg9⟩ := hst' w8 rfl (g5, c5); have HG6 := Lib.hid hg6; have HG7 := Lib.hid hg7; have HG8 := Lib.hid hg8; have HG9 := Lib.hid hg9; have HM7 := Lib.hid hm7; have HM9 := Lib.hid hm9; simp only [sv, goInt] at hrun1 hrun2 hrun3 hrun4; clear hs5 hb5 hst hst' hg6 hg7 hg8 hg9 hm7 hm9 hmD)))
  all_goals
    go_wp2_with fail
    go_ret
    refine ⟨rfl, ?_⟩
    have F7 : Fr (fun z => z = h.nb) W2 w7 := ((Fr.of _ HB5.out).trans (Fr.gro (T := fun z => z = h.nb) HG6.out rfl)).trans (Fr.gro (T := fun z => z = h.nb) HG7.out rfl)
    have F9 : Fr (fun z => z = h.db) w7 w9 := (Fr.gro (T := fun z => z = h.db) HG8.out rfl).trans (Fr.gro (T := fun z => z = h.db) HG9.out rfl)
    have F7T : Fr (h.T d) W2 w7 := F7.mono (fun z e => .inr (.inl e))
    have F57 : Fr (h.T d) w5 w7 := (Fr.gro HG6.out (.inr (.inl rfl))).trans (Fr.gro HG7.out (.inr (.inl rfl)))
    have hn := secs.put HR1.out HR2.out F7T.S (HSB.out.fr F7T.S (TT.refl _ _)) HM7.out
    have hd2 := HK.out.dur.fr F7T.S (TT.refl _ _) (F7.block _ HK.out.dur.lt (fun e => hne3 e.symm))
    obtain ⟨q1, q2⟩ := HK.out.mapped h.nb F7 (.inl rfl) { s with now := updR s.now q (turnB row j) } hn hd2 rfl rfl rfl rfl
    obtain ⟨q3, q4⟩ := q1.laid (r := r') (fun k e => HR1'.out k e) (fun k bs e => by
      obtain ⟨v, e1, e2⟩ := HR2'.out k bs e
      exact ⟨v, e1, e2.fr F7T.S (TT.refl _ _)⟩) (HS5.out.fr F57.S (TT.refl _ _)) F9 HM9.out
    exact ⟨by rw [HTS.out]; exact q3, (Fr.of _ HB2.out).trans (F7T.trans q4)⟩
end Go.Proofs.Ytommepmeohaijaa
