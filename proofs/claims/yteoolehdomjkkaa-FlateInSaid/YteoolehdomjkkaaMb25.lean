/- Merged: RdS, RfP, Iq1, Iq2. -/
import Derived.Deep.QuietTactic
import Derived.Test.YteoolehdomjkkaaMb24
import Derived.Test.YteoolehdomjkkaaMb20
import Derived.Test.YteoolehdomjkkaaMb21
/- flate: all blocks, plainly; how far a reader comes. -/
namespace Go.Proofs.Yteoolehdomjkkaa
set_option linter.all false

theorem nextP_m (bs : List UInt8) (ls : List Int) (s : RS) : s.p ≤ (nextP bs ls s).2.p := by
  unfold nextP
  split
  · have key : ∀ f t v P, P ≤ (nx ls bs f t v P).2.2 := fun f => by
      induction f with
      | zero => intro t v P; exact Nat.le_refl _
      | succ f ih =>
        intro t v P
        rw [nx]
        split
        · exact Nat.le_refl _
        · split
          · exact Nat.le_succ P
          · have := ih (t + 1) (v * 2 + bitAt bs P) (P + 1)
            omega
    exact key 15 1 0 s.p
  · exact Nat.le_refl _
theorem copyP_m (bs : List UInt8) (most : Int) (s : RS) (q : Nat) (dl : Option (List Int)) : s.p ≤ (copyP bs most s q dl).p := by
  have h1 := getP_p bs s (lenOf (q - 257)).2
  unfold copyP
  split
  · rw [fail_p]; exact Nat.le_refl _
  · split
    · refine Nat.le_trans h1 ?_
      cases dl with
      | none =>
        show _ ≤ (RS.fail _ 1).p
        rw [fail_p]
        exact Nat.le_refl _
      | some ds =>
        rw [cpB]
        have h1 := nextP_m bs ds (getP bs s (lenOf (q - 257)).2).2
        split
        · rw [fail_p]; exact h1
        · rw [copiesP_p]
          exact Nat.le_trans h1 (getP_p bs _ _)
    · exact h1
theorem toksF_m (bs : List UInt8) (most : Int) (ll : List Int) (dl : Option (List Int)) : ∀ (f : Nat) (s : RS), s.p ≤ (toksF bs most ll dl f s).p
  | 0, s => Nat.le_refl _
  | f + 1, s => by
    have h1 := nextP_m bs ll s
    rw [toksF]
    split
    · split
      · split
        · exact h1
        · split
          · refine Nat.le_trans h1 (Nat.le_trans ?_ (toksF_m bs most ll dl f _))
            rw [givesP_p]
            exact Nat.le_refl _
          · exact Nat.le_trans h1 (Nat.le_trans (copyP_m bs most _ _ dl) (toksF_m bs most ll dl f _))
      · exact h1
    · exact Nat.le_refl _
theorem plnF_m (bs : List UInt8) (most : Int) : ∀ (k : Nat) (s : RS), s.p ≤ (plnF bs most k s).p
  | 0, s => Nat.le_refl _
  | k + 1, s => by
    have h1 := getP_p bs s 8
    rw [plnF]
    split
    · split
      · refine Nat.le_trans h1 (Nat.le_trans ?_ (plnF_m bs most k _))
        rw [givesP_p]
        exact Nat.le_refl _
      · exact h1
    · exact Nat.le_refl _
theorem plainP_m (bs : List UInt8) (most : Int) (s : RS) : s.p ≤ (plainP bs most s).p := by
  have h0 : s.p ≤ (pl0 s).p := by show s.p ≤ 8 * ((s.p + 7) / 8); omega
  have h1 : (pl0 s).p ≤ (pl2 bs s).p := Nat.le_trans (getP_p bs (pl0 s) 16) (getP_p bs _ 16)
  have h2 : (pl3 bs s).p = (pl2 bs s).p := by
    unfold pl3
    split
    · exact fail_p _ _
    · rfl
  unfold plainP
  refine Nat.le_trans (Nat.le_trans h0 h1) ?_
  rw [← h2]
  exact plnF_m bs most _ _
theorem lenRd_m (bs : List UInt8) : ∀ (ks : List Nat) (l : List Int) (s : RS), s.p ≤ (lenRd bs ks l s).2.p
  | [], l, s => Nat.le_refl _
  | k :: ks, l, s => Nat.le_trans (getP_p bs s 3) (lenRd_m bs ks _ _)
theorem repP_p (l : List Int) (x : Int) (n all : Nat) (s : RS) : (repP l x n all s).2.p = s.p := by
  have : (rep0 l n all s).p = s.p := by
    unfold rep0
    split
    · exact fail_p s 4
    · rfl
  unfold repP
  split <;> exact this
theorem listF_m (bs : List UInt8) (ls : List Int) (all : Nat) : ∀ (f : Nat) (l : List Int) (s : RS), s.p ≤ (listF bs ls all f l s).2.p
  | 0, l, s => Nat.le_refl _
  | f + 1, l, s => by
    have h1 := nextP_m bs ls s
    have rp : ∀ (x : Int) (k m : Nat), s.p ≤ (listF bs ls all f (repP l x k all (getP bs (nextP bs ls s).2 m).2).1 (repP l x k all (getP bs (nextP bs ls s).2 m).2).2).2.p := fun x k m => by
      refine Nat.le_trans (Nat.le_trans h1 ?_) (listF_m bs ls all f _ _)
      rw [repP_p]
      exact getP_p bs _ m
    rw [listF]
    split
    · split
      · split
        · exact Nat.le_trans h1 (listF_m bs ls all f _ _)
        · split
          · split
            · show _ ≤ (RS.fail _ 4).p
              rw [fail_p]; exact h1
            · exact rp _ _ _
          · split
            · exact rp _ _ _
            · exact rp _ _ _
      · exact h1
    · exact Nat.le_refl _
theorem ownLs_m (bs : List UInt8) (s : RS) : s.p ≤ (ownLs bs s).2.p := by
  have hA : s.p ≤ (hdA bs s).p := by
    unfold hdA
    split
    · rw [fail_p]; exact getP_p bs s 5
    · exact getP_p bs s 5
  have hB : (hdA bs s).p ≤ (hdB bs s).p := by
    unfold hdB
    split
    · rw [fail_p]; exact getP_p bs _ 5
    · exact getP_p bs _ 5
  have hL : (hdB bs s).p ≤ (hdL bs s).2.p := Nat.le_trans (getP_p bs _ 4) (lenRd_m bs _ _ _)
  refine Nat.le_trans hA (Nat.le_trans hB (Nat.le_trans hL ?_))
  unfold ownLs
  cases decD (hdL bs s).1 (hdL bs s).2 with
  | none =>
    show _ ≤ (decP _ _ _).p
    rw [decP_p]
    exact Nat.le_refl _
  | some ls =>
    refine Nat.le_trans ?_ (listF_m bs ls _ _ [] _)
    rw [decP_p]
    exact Nat.le_refl _
theorem own3_p (all : List Int) (n : Nat) (s : RS) : (own3 all n s).p = s.p := by
  have h1 : (own1 all s).p = s.p := by
    unfold own1
    split
    · exact fail_p s 4
    · rfl
  have h2 : (own2 all n s).p = s.p := by unfold own2; rw [decP_p, h1]
  unfold own3
  split
  · exact h2
  · rw [decP_p, h2]
theorem rownP_m (bs : List UInt8) (most : Int) (f : Nat) (s : RS) : s.p ≤ (rownP bs most f s).p := by
  refine Nat.le_trans (ownLs_m bs s) ?_
  unfold rownP ownT
  split
  · split
    · refine Nat.le_trans ?_ (toksF_m bs most _ _ f _)
      rw [own3_p]
      exact Nat.le_refl _
    · rw [own3_p]
      exact Nat.le_refl _
  · exact Nat.le_refl _
theorem toksF_le {bs : List UInt8} {most : Int} {ll : List Int} {dl : Option (List Int)} : ∀ (f : Nat) {s : RS}, (s.out.length : Int) ≤ most → ((toksF bs most ll dl f s).out.length : Int) ≤ most
  | 0, s, h => h
  | f + 1, s, h => by
    have h1 : (((nextP bs ll s).2.out.length : Nat) : Int) ≤ most := by rw [nextP_out]; exact h
    rw [toksF]
    split
    · split
      · split
        · exact h1
        · split
          · exact toksF_le f (givesP_le h1)
          · exact toksF_le f (copyP_le h1)
      · exact h1
    · exact h
theorem rownP_le {bs : List UInt8} {most : Int} {f : Nat} {s : RS} (h : (s.out.length : Int) ≤ most) : ((rownP bs most f s).out.length : Int) ≤ most := by
  have h1 : (((ownLs bs s).2.out.length : Nat) : Int) ≤ most := by rw [ownLs_out]; exact h
  have ho1 : ∀ all t, (own1 all t).out = t.out := fun all t => by
    unfold own1
    split
    · exact fail_out t 4
    · rfl
  have ho2 : ∀ all n t, (own2 all n t).out = t.out := fun all n t => by unfold own2; rw [decP_out, ho1]
  have ho3 : ∀ all n t, (own3 all n t).out = t.out := fun all n t => by
    unfold own3
    split
    · exact ho2 _ _ _
    · rw [decP_out, ho2]
  unfold rownP ownT
  split
  · split
    · exact toksF_le f (by rw [ho3]; exact h1)
    · rw [ho3]; exact h1
  · exact h1
/-- A block's first bits. -/
def blk0 (bs : List UInt8) (s : RS) : Nat := (getP bs s 1).1
def blk1 (bs : List UInt8) (s : RS) : Nat := (getP bs (getP bs s 1).2 2).1
def blk2 (bs : List UInt8) (s : RS) : RS := (getP bs (getP bs s 1).2 2).2
def kindP (bs : List UInt8) (most : Int) (f k : Nat) (s : RS) : RS := if k = 0 then plainP bs most s else if k = 1 then rfixP bs most f s else if k = 2 then rownP bs most f s else s.fail 4
def blkP (bs : List UInt8) (most : Int) (f : Nat) (s : RS) : RS := kindP bs most f (blk1 bs s) (blk2 bs s)
/-- Blocks up to the last one. -/
def infF (bs : List UInt8) (most : Int) (f : Nat) : Nat → RS → RS
  | 0, s => s
  | k + 1, s => if s.e = 0 then (if blk0 bs s = 0 then infF bs most f k (blkP bs most f s) else blkP bs most f s) else s
def infS (bs : List UInt8) (most : Int) : RS := infF bs most (8 * bs.length + 1) (8 * bs.length + 1) ⟨0, [], 0⟩
def inflP (bs : List UInt8) (most : Int) : List UInt8 × Nat × Int :=
  if most < 0 ∨ 40000 < most then ([], 0, 1) else if (infS bs most).e = 0 then ((infS bs most).out, ((infS bs most).p + 7) / 8, 0) else ([], 0, (infS bs most).e)
theorem infF_err {bs : List UInt8} {most : Int} {f k : Nat} {s : RS} (h : ¬ s.e = 0) : infF bs most f k s = s := by
  cases k with
  | zero => rfl
  | succ k => exact if_neg h
theorem blk2_out (bs : List UInt8) (s : RS) : (blk2 bs s).out = s.out := by unfold blk2; rw [getP_out, getP_out]
theorem kindP_le {bs : List UInt8} {most : Int} {f k : Nat} {s : RS} (h : (s.out.length : Int) ≤ most) : ((kindP bs most f k s).out.length : Int) ≤ most := by
  unfold kindP
  split
  · exact plainP_le h
  · split
    · exact toksF_le f h
    · split
      · exact rownP_le h
      · rw [fail_out]; exact h
theorem kindP_m (bs : List UInt8) (most : Int) (f k : Nat) (s : RS) : s.p ≤ (kindP bs most f k s).p := by
  unfold kindP
  split
  · exact plainP_m bs most s
  · split
    · exact toksF_m bs most _ _ f s
    · split
      · exact rownP_m bs most f s
      · rw [fail_p]; exact Nat.le_refl _
/-- No error of getting bits goes away. -/
theorem getP_e0 {bs : List UInt8} {s : RS} {m : Nat} (h : (getP bs s m).2.e = 0) : s.e = 0 ∧ (getP bs s m).2.p = s.p + m := by
  unfold getP at h ⊢
  by_cases he : s.e = 0
  · rw [if_pos he] at h ⊢
    by_cases h2 : s.p + m ≤ 8 * bs.length
    · rw [if_pos h2]; exact ⟨he, rfl⟩
    · rw [if_neg h2] at h
      exact absurd h (show ¬ (2 : Int) = 0 by decide)
  · rw [if_neg he] at h
    exact absurd h he
theorem getP_v0 {bs : List UInt8} {s : RS} {m : Nat} (h : ¬ (getP bs s m).1 = 0) : (getP bs s m).2.e = 0 := by
  unfold getP at h ⊢
  by_cases he : s.e = 0
  · rw [if_pos he] at h ⊢
    by_cases h2 : s.p + m ≤ 8 * bs.length
    · rw [if_pos h2]
    · rw [if_neg h2] at h
      exact absurd rfl h
  · rw [if_neg he] at h
    exact absurd rfl h
/-- An error does not go away. -/
theorem fail_e0 {s : RS} {e : Int} (h : (s.fail e).e = 0) : s.e = 0 := by
  unfold RS.fail at h
  split at h
  · assumption
  · assumption
theorem plainP_err {bs : List UInt8} {most : Int} {s : RS} (h : ¬ s.e = 0) : ¬ (plainP bs most s).e = 0 := by
  have h0 : ¬ (pl0 s).e = 0 := h
  have h1 : ¬ (pl2 bs s).e = 0 := fun hh => h0 (getP_e0 (getP_e0 hh).1).1
  have h3 : ¬ (pl3 bs s).e = 0 := by
    unfold pl3
    split
    · exact fun hh => h1 (fail_e0 hh)
    · exact h1
  unfold plainP
  rw [plnF_err h3]
  exact h3
theorem decP_e0 {ls : List Int} {a : Bool} {s : RS} (h : (decP ls a s).e = 0) : s.e = 0 := (decP_zero h).1
theorem lenRd_e0 (bs : List UInt8) : ∀ (ks : List Nat) (l : List Int) (s : RS), (lenRd bs ks l s).2.e = 0 → s.e = 0
  | [], l, s, h => h
  | k :: ks, l, s, h => (getP_e0 (lenRd_e0 bs ks _ _ h)).1
theorem listD_e0 {bs : List UInt8} {D : Option (List Int)} {all : Nat} {s : RS} (h : (listD bs D all s).2.e = 0) : s.e = 0 := by
  cases D with
  | none => exact h
  | some ls =>
    by_cases he : s.e = 0
    · exact he
    · have : listD bs (some ls) all s = ([], s) := listF_stop (fun hh => he hh.2)
      rw [this] at h
      exact h
theorem rownP_err {bs : List UInt8} {most : Int} {f : Nat} {s : RS} (h : ¬ s.e = 0) : ¬ (rownP bs most f s).e = 0 := by
  have h1 : ¬ (ownLs bs s).2.e = 0 := fun hh => by
    have h2 := lenRd_e0 bs _ _ _ (decP_e0 (listD_e0 hh))
    have h3 := (getP_e0 h2).1
    have h4 : (hdA bs s).e = 0 := by
      unfold hdB at h3
      split at h3
      · exact (getP_e0 (fail_e0 h3)).1
      · exact (getP_e0 h3).1
    unfold hdA at h4
    split at h4
    · exact h (getP_e0 (fail_e0 h4)).1
    · exact h (getP_e0 h4).1
  unfold rownP ownT
  rw [if_neg h1]
  exact h1
theorem kindP_err {bs : List UInt8} {most : Int} {f k : Nat} {s : RS} (h : ¬ s.e = 0) : ¬ (kindP bs most f k s).e = 0 := by
  unfold kindP
  split
  · exact plainP_err h
  · split
    · unfold rfixP; rw [toksF_err h]; exact h
    · split
      · exact rownP_err h
      · exact fun hh => h (fail_e0 hh)
/-- A block that is read whole takes bits. -/
theorem blkP_p {bs : List UInt8} {most : Int} {f : Nat} {s : RS} (h : (blkP bs most f s).e = 0) : s.p + 3 ≤ (blkP bs most f s).p := by
  have h1 : (blk2 bs s).e = 0 := Decidable.byContradiction fun hh => kindP_err hh h
  obtain ⟨h2, h3⟩ := getP_e0 h1
  obtain ⟨h4, h5⟩ := getP_e0 h2
  have h6 := kindP_m bs most f (blk1 bs s) (blk2 bs s)
  have h7 : (blk2 bs s).p = s.p + 1 + 2 := by unfold blk2; rw [h3, h5]
  unfold blkP
  omega
theorem fixL_dec (s : RS) : decP fixL false s = s := by
  by_cases he : s.e = 0
  · unfold decP
    rw [if_pos he, if_pos (show nwE fixL = 0 by decide +kernel), if_neg (show ¬ decBad fixL false from fun h => absurd h.1 (show ¬ krV fixL < 32768 by decide +kernel))]
  · exact if_neg he
theorem fixD_dec (s : RS) : decP fixD false s = s := by
  by_cases he : s.e = 0
  · unfold decP
    rw [if_pos he, if_pos (show nwE fixD = 0 by decide +kernel), if_neg (show ¬ decBad fixD false from fun h => absurd h.1 (show ¬ krV fixD < 32768 by decide +kernel))]
  · exact if_neg he
end Go.Proofs.Yteoolehdomjkkaa

/- flate: what the document's reader of blocks does, plainly. -/
namespace Go.Proofs.Yteoolehdomjkkaa
set_option linter.all false

/-- What came out, copied on. -/
def cpyN (dist : Nat) : Nat → List UInt8 → List UInt8
  | 0, out => out
  | k + 1, out => cpyN dist k (out ++ [out.getD (out.length - dist) 0])
theorem givesP_ok {most : Int} {s : RS} {x : UInt8} (h : (s.out.length : Int) < most) : givesP most s x = ⟨s.p, s.out ++ [x], s.e⟩ := if_neg (by omega)
theorem givesP_bad {most : Int} {s : RS} {x : UInt8} (h : most ≤ (s.out.length : Int)) : ¬ (givesP most s x).e = 0 := by
  unfold givesP
  rw [if_pos h]
  exact fail_e (by decide)
theorem cpyF_to {most : Int} {dist : Nat} : ∀ (k : Nat) {s : RS}, s.e = 0 → (s.out.length : Int) + (k : Int) ≤ most → cpyF most dist k s = ⟨s.p, cpyN dist k s.out, 0⟩
  | 0, s, he, h => by
    obtain ⟨p, out, e⟩ := s
    have : e = 0 := he
    subst this
    rfl
  | k + 1, s, he, h => by
    rw [cpyF, if_pos he, givesP_ok (by omega)]
    exact cpyF_to k he (by rw [List.length_append]; show ((s.out.length + 1 : Nat) : Int) + (k : Int) ≤ most; omega)
theorem cpyF_bad {most : Int} {dist : Nat} : ∀ (k : Nat) {s : RS}, (s.out.length : Int) ≤ most → most < (s.out.length : Int) + (k : Int) → ¬ (cpyF most dist k s).e = 0
  | 0, s, h1, h2 => by omega
  | k + 1, s, h1, h2 => by
    rw [cpyF]
    split
    · rename_i he
      by_cases h3 : (s.out.length : Int) < most
      · rw [givesP_ok h3]
        refine cpyF_bad k ?_ ?_
        · rw [List.length_append]; show ((s.out.length + 1 : Nat) : Int) ≤ most; omega
        · rw [List.length_append]; show most < ((s.out.length + 1 : Nat) : Int) + (k : Int); omega
      · have h4 := givesP_bad (x := s.out.getD (s.out.length - dist) 0) (show most ≤ (s.out.length : Int) by omega)
        rw [cpyF_err h4]
        exact h4
    · rename_i he; exact he
theorem copies_ok {most : Int} {s : RS} {len dist : Nat} (he : s.e = 0) (h1 : dist ≤ s.out.length) (h2 : (s.out.length : Int) + (len : Int) ≤ most) : copiesP most s len dist = ⟨s.p, cpyN dist len s.out, 0⟩ := by
  unfold copiesP
  rw [if_neg (by omega)]
  exact cpyF_to len he h2
theorem copies_bad {most : Int} {s : RS} {len dist : Nat} (ho : (s.out.length : Int) ≤ most) (h : ¬ (dist ≤ s.out.length ∧ (s.out.length : Int) + (len : Int) ≤ most)) : ¬ (copiesP most s len dist).e = 0 := by
  unfold copiesP
  by_cases h1 : s.out.length < dist
  · rw [if_pos h1]
    have h4 : ¬ (s.fail 1).e = 0 := fail_e (by decide)
    rw [cpyF_err h4]
    exact h4
  · rw [if_neg h1]
    exact cpyF_bad len ho (by omega)
theorem cpyN_len (dist : Nat) : ∀ (k : Nat) (out : List UInt8), (cpyN dist k out).length = out.length + k
  | 0, out => rfl
  | k + 1, out => by rw [cpyN, cpyN_len dist k, List.length_append]; show out.length + 1 + k = _; omega
theorem cpyN_snoc (dist : Nat) : ∀ (k : Nat) (out : List UInt8), cpyN dist (k + 1) out = cpyN dist k out ++ [(cpyN dist k out).getD ((cpyN dist k out).length - dist) 0]
  | 0, out => rfl
  | k + 1, out => by
    rw [cpyN, cpyN_snoc dist k]
    rfl
/-- Bits got, or not. -/
theorem getP_ok {bs : List UInt8} {s : RS} {m : Nat} (he : s.e = 0) (h : s.p + m ≤ 8 * bs.length) : getP bs s m = (getV bs s.p m, ⟨s.p + m, s.out, 0⟩) := by
  unfold getP
  rw [if_pos he, if_pos h]
theorem getP_bad {bs : List UInt8} {s : RS} {m : Nat} (h : ¬ s.p + m ≤ 8 * bs.length) : ¬ (getP bs s m).2.e = 0 := by
  unfold getP
  by_cases he : s.e = 0
  · rw [if_pos he, if_neg h]; exact show ¬ (2 : Int) = 0 by decide
  · rw [if_neg he]; exact he
theorem getP_err {bs : List UInt8} {s : RS} {m : Nat} (h : ¬ s.e = 0) : ¬ (getP bs s m).2.e = 0 := fun hh => h (getP_e0 hh).1
theorem nextP_err {bs : List UInt8} {ls : List Int} {s : RS} (h : ¬ s.e = 0) : ¬ (nextP bs ls s).2.e = 0 := by
  unfold nextP
  rw [if_neg h]
  exact h
/-- Tokens, one step. -/
theorem toks_end {bs : List UInt8} {most : Int} {ll : List Int} {dl : Option (List Int)} {f : Nat} {s : RS} (he : s.e = 0) (h1 : (nextP bs ll s).2.e = 0) (h2 : (nextP bs ll s).1 = 256) : toksF bs most ll dl (f + 1) s = (nextP bs ll s).2 := by rw [toksF, if_pos he, if_pos h1, if_pos h2]
theorem toks_bad {bs : List UInt8} {most : Int} {ll : List Int} {dl : Option (List Int)} {f : Nat} {s : RS} (he : s.e = 0) (h1 : ¬ (nextP bs ll s).2.e = 0) : ¬ (toksF bs most ll dl (f + 1) s).e = 0 := by rw [toksF, if_pos he, if_neg h1]; exact h1
theorem toks_byte {bs : List UInt8} {most : Int} {ll : List Int} {dl : Option (List Int)} {f : Nat} {s : RS} (he : s.e = 0) (h1 : (nextP bs ll s).2.e = 0) (h2 : (nextP bs ll s).1 < 256) : toksF bs most ll dl (f + 1) s = toksF bs most ll dl f (givesP most (nextP bs ll s).2 (UInt8.ofNat (nextP bs ll s).1.toNat)) := by rw [toksF, if_pos he, if_pos h1, if_neg (by omega), if_pos h2]
theorem toks_copy {bs : List UInt8} {most : Int} {ll : List Int} {dl : Option (List Int)} {f : Nat} {s : RS} (he : s.e = 0) (h1 : (nextP bs ll s).2.e = 0) (h2 : 256 < (nextP bs ll s).1) : toksF bs most ll dl (f + 1) s = toksF bs most ll dl f (copyP bs most (nextP bs ll s).2 (nextP bs ll s).1.toNat dl) := by rw [toksF, if_pos he, if_pos h1, if_neg (by omega), if_neg (by omega)]
theorem toks_err {bs : List UInt8} {most : Int} {ll : List Int} {dl : Option (List Int)} {f : Nat} {s : RS} (he : ¬ s.e = 0) : ¬ (toksF bs most ll dl f s).e = 0 := by rw [toksF_err he]; exact he
theorem copyP_high {bs : List UInt8} {most : Int} {s : RS} {q : Nat} {dl : Option (List Int)} (h : 286 ≤ q) : ¬ (copyP bs most s q dl).e = 0 := by
  unfold copyP
  rw [if_pos h]
  exact fail_e (by decide)
theorem copyP_get {bs : List UInt8} {most : Int} {s : RS} {q : Nat} {dl : Option (List Int)} (h : ¬ (getP bs s (lenOf (q - 257)).2).2.e = 0) : ¬ (copyP bs most s q dl).e = 0 := by
  unfold copyP
  by_cases h2 : 286 ≤ q
  · rw [if_pos h2]; exact fail_e (by decide)
  · rw [if_neg h2, if_neg h]; exact h
theorem copyP_none {bs : List UInt8} {most : Int} {s : RS} {q : Nat} : ¬ (copyP bs most s q none).e = 0 := by
  unfold copyP
  split
  · exact fail_e (by decide)
  · split
    · exact fail_e (by decide)
    · assumption
theorem copyP_go {bs : List UInt8} {most : Int} {s : RS} {q : Nat} {ds : List Int} (hq : q < 286) (h : (getP bs s (lenOf (q - 257)).2).2.e = 0) : copyP bs most s q (some ds) = cpB bs most (getP bs s (lenOf (q - 257)).2).2 ((lenOf (q - 257)).1 + (getP bs s (lenOf (q - 257)).2).1) (some ds) := by
  unfold copyP
  rw [if_neg (by omega), if_pos h]
theorem copies_err {most : Int} {s : RS} {len dist : Nat} (h : ¬ s.e = 0) : ¬ (copiesP most s len dist).e = 0 := by
  unfold copiesP
  have h4 : ¬ (if s.out.length < dist then s.fail 1 else s).e = 0 := by
    split
    · exact fun hh => h (fail_e0 hh)
    · exact h
  rw [cpyF_err h4]
  exact h4
theorem cpB_bad {bs : List UInt8} {most : Int} {s : RS} {len : Nat} {ds : List Int} (h : ¬ ((nextP bs ds s).2.e = 0 ∧ (nextP bs ds s).1 < 30)) : ¬ (cpB bs most s len (some ds)).e = 0 := by
  rw [cpB]
  by_cases h1 : (nextP bs ds s).2.e = 0
  · rw [if_pos ⟨h1, by have : ¬ (nextP bs ds s).1 < 30 := fun hh => h ⟨h1, hh⟩; omega⟩]
    exact fail_e (by decide)
  · rw [if_neg (fun hh => h1 hh.1)]
    exact copies_err (getP_err h1)
theorem cpB_go {bs : List UInt8} {most : Int} {s : RS} {len : Nat} {ds : List Int} (h1 : (nextP bs ds s).1 < 30) : cpB bs most s len (some ds) = copiesP most (getP bs (nextP bs ds s).2 (distOf (nextP bs ds s).1.toNat).2).2 len ((distOf (nextP bs ds s).1.toNat).1 + (getP bs (nextP bs ds s).2 (distOf (nextP bs ds s).1.toNat).2).1) := by
  rw [cpB, if_neg (by omega)]
end Go.Proofs.Yteoolehdomjkkaa

/- flate: the document's reader of blocks: bits got, a byte given out. -/
namespace Go.Proofs.Yteoolehdomjkkaa
set_option linter.all false
open Go.RowKit

/-- The document's reader of blocks: how far it has come, what came out. -/
structure FI (w : World) (r g : Nat) (A : Option Addr) (n c P : Nat) (bs : List UInt8) (vo : Value) (out : List UInt8) (most : Int) : Prop where
  arr : Arr w r [.pointer (some ⟨g, 0, none⟩), vo, .int .i64 most]
  rd : Arr w g (rdr A n c P)
  rb : RdB w g A n bs
  own : ownB w (r + 1) vo out
  gr : g < r
  fit : P ≤ 8 * n
  big : n ≤ 1000000
section
variable {w w' : World} {r g : Nat} {A : Option Addr} {n c P P' : Nat} {bs : List UInt8} {vo : Value} {out : List UInt8} {most : Int}
theorem FI.drewN (h : FI w r g A n c P bs vo out most) (q : Nat) : FI (w.drewN q) r g A n c P bs vo out most :=
  ⟨h.arr.drewN q, h.rd.drewN q, h.rb.blw ((bdrewN (Below.refl g w) q)), h.own.drewN q, h.gr, h.fit, h.big⟩
theorem FI.moved (h : FI w r g A n c P bs vo out most) (hA : Arr w' g (rdr A n c P')) (hg : w.grownBy w' (some g)) (hf : P' ≤ 8 * n) : FI w' r g A n c P' bs vo out most := by
  have hgr := h.gr
  refine ⟨h.arr.gro hg (by omega), hA, h.rb.blw (below_gb hg (Nat.le_of_lt h.rd.lt) (Nat.le_refl _)), World.ownsRow.kept h.own hg ?_, hgr, hf, h.big⟩
  cases e : vo.ownBlock with
  | none => exact .inl rfl
  | some k => exact .inr (fun e2 => by injection e2 with e2; have := (World.ownsRow.lt h.own k e).1; omega)
theorem FI.later (h : FI w r g A n c P bs vo out most) (hb : Below w.heap.size w w') : FI w' r g A n c P bs vo out most :=
  ⟨h.arr.later hb, h.rd.later hb, h.rb.blw (hb.mono (Nat.le_of_lt h.rd.lt)), ownB.later h.own hb, h.gr, h.fit, h.big⟩
/-- A byte appended: what stands behind the store. -/
theorem FI.gave {w3 : World} {x : UInt8} {o : Obj} {v1 : Value} (h : FI w r g A n c P bs vo out most) (hown : ownB w3 (r + 1) v1 (out ++ [x])) (hgb : (w.alloc o).grownBy w3 vo.ownBlock) (hbl : Below (r + 1) (w.alloc o) w3) (hat : v1.ownBlock = vo.ownBlock ∨ v1.ownBlock = some (w.alloc o).heap.size) :
    FI (w3.setCell ⟨r, 1, none⟩ v1) r g A n c P bs v1 (out ++ [x]) most ∧ RFr w (w3.setCell ⟨r, 1, none⟩ v1) r g vo v1 ∧ w3.cell? ⟨r, 1, none⟩ = some vo ∧ w3.frozen? ⟨r, 1, none⟩ = false := by
  have hgr := h.gr
  have HF3 := (RFr.grown (r := r) (g := g) o hgb hat)
  have HA3 := (h.arr.alloc o).blw hbl (Nat.lt_succ_self r)
  have HG3 := (h.rd.alloc o).blw hbl (by omega)
  have HB3 := RdB.blw (Rd.alloc h.rb (by have := h.rd.lt; omega) o) (hbl.mono (by omega))
  exact ⟨⟨HA3.set 1 _, HG3.far (p := ⟨r, 1, none⟩) (by show r ≠ g; omega) _, HB3.blw ((Below.refl g w3).setCell (p := ⟨r, 1, none⟩) (by show g ≤ r; omega) _), ownB.far hown (g := r) (ownB_ne hown (Nat.lt_succ_self r)) 1 _, hgr, h.fit, h.big⟩, HF3.set1 1 _, HA3.cell (k := 1) rfl, HA3.frozen 1⟩
end
section
variable (r g n c P m : Nat) (A : Option Addr) (bs : List UInt8) (vo : Value) (out : List UInt8) (most : Int) (M : Int) (w : World)
set_option maxRecDepth 100000 in
set_option maxHeartbeats 1600000 in
theorem iget_ok (hM : M = (m : Int)) (h : FI w r g A n c P bs vo out most) (hm : m ≤ 24) (hfit : P + m ≤ 8 * n) :
    Calls Try.prog 32 #[.pointer (some ⟨r, 0, none⟩), .int .i64 M] w fun e w' => e = .returned (.tuple #[.int .i64 ((getV bs P m : Nat) : Int), .bool true]) ∧ FI w' r g A n c (P + m) bs vo out most ∧ RFr w w' r g vo vo := by
  subst hM
  have H := Lib.hid h
  have HG := Lib.hid (getR_any g g n c P m A bs w h.rd h.rb (Nat.le_refl _) (by have := h.big; omega) h.fit hm hfit)
  have c0 := h.arr.cell (k := 0) rfl
  have hv := getV_lt bs P m
  have hv2 : getV bs P m < 16777216 := Nat.lt_of_lt_of_le hv (Nat.pow_le_pow_right (by decide) hm)
  clear h hv
  generalize getV bs P m = v at *
  go_enter Try.func32, Try.ntmps32
  go_wp2_with (go_at_call 64; (with_reducible refine HG.out.mono ?_); go_must (rintro e w1 ⟨rfl, ha1, hg1⟩; have HA1 := Lib.hid ha1; have HG1 := Lib.hid hg1; clear ha1 hg1))
  go_ret2
  exact ⟨rfl, H.out.moved HA1.out HG1.out hfit, RFr.ofG HG1.out r vo⟩
set_option maxRecDepth 100000 in
set_option maxHeartbeats 1600000 in
theorem iget_bad (hM : M = (m : Int)) (h : FI w r g A n c P bs vo out most) (hm : m ≤ 24) (hfit : ¬ P + m ≤ 8 * n) :
    Calls Try.prog 32 #[.pointer (some ⟨r, 0, none⟩), .int .i64 M] w fun e w' => e = .returned (.tuple #[.int .i64 0, .bool false]) ∧ FI w' r g A n c P bs vo out most ∧ RFr w w' r g vo vo := by
  subst hM
  have H := Lib.hid h
  have HG := Lib.hid (getR_short g n c P m A w h.rd (by have := h.big; omega) h.fit hm (by omega))
  have c0 := h.arr.cell (k := 0) rfl
  clear h
  go_enter Try.func32, Try.ntmps32
  go_wp2_with (go_at_call 64; (with_reducible refine HG.out.mono ?_); go_must (rintro e w1 ⟨rfl, hg1⟩; have HG1 := Lib.hid (gb_none hg1 g); have HA1 := Lib.hid (H.out.rd.gbN hg1); clear hg1))
  go_ret2
  exact ⟨rfl, H.out.moved HA1.out HG1.out H.out.fit, RFr.ofG HG1.out r vo⟩
end
end Go.Proofs.Yteoolehdomjkkaa

/- flate: the document's reader of blocks: a stored block. -/
namespace Go.Proofs.Yteoolehdomjkkaa
set_option linter.all false
open Go.RowKit

theorem plnF_over {bs : List UInt8} {most : Int} : ∀ (k : Nat) {s : RS}, s.e = 0 → (s.out.length : Int) ≤ most → most < (s.out.length : Int) + (k : Int) → ¬ (plnF bs most k s).e = 0
  | 0, s, he, h1, h2 => by omega
  | k + 1, s, he, h1, h2 => by
    rw [plnF, if_pos he]
    by_cases hg : (getP bs s 8).2.e = 0
    · rw [if_pos hg]
      by_cases hm : most ≤ (s.out.length : Int)
      · have hb : ¬ (givesP most (getP bs s 8).2 (UInt8.ofNat (getP bs s 8).1)).e = 0 := givesP_bad (by rw [getP_out]; exact hm)
        rw [plnF_err hb]
        exact hb
      · rw [givesP_ok (by rw [getP_out]; omega), getP_out]
        refine plnF_over k hg ?_ ?_
        · show ((s.out ++ [_]).length : Int) ≤ most
          rw [List.length_append]; show ((s.out.length + 1 : Nat) : Int) ≤ most; omega
        · show most < ((s.out ++ [_]).length : Int) + _
          rw [List.length_append]; show most < ((s.out.length + 1 : Nat) : Int) + _; omega
    · rw [if_neg hg]; exact hg
theorem plnF_ok {bs : List UInt8} {most : Int} {k P : Nat} {out : List UInt8} (hf : P + 8 ≤ 8 * bs.length) (hm : (out.length : Int) < most) : plnF bs most (k + 1) ⟨P, out, 0⟩ = plnF bs most k ⟨P + 8, out ++ [UInt8.ofNat (getV bs P 8)], 0⟩ := by
  rw [plnF, if_pos rfl, getP_ok rfl hf, if_pos rfl, givesP_ok hm]
theorem plnF_short {bs : List UInt8} {most : Int} {k P : Nat} {out : List UInt8} (hf : ¬ P + 8 ≤ 8 * bs.length) : ¬ (plnF bs most (k + 1) ⟨P, out, 0⟩).e = 0 := by
  have hg : ¬ (getP bs ⟨P, out, 0⟩ 8).2.e = 0 := getP_bad hf
  rw [plnF, if_pos rfl, if_neg hg]
  exact hg
theorem plain_go {bs : List UInt8} {most : Int} {P Q N : Nat} {out : List UInt8} (hQ : 8 * ((P + 7) / 8) = Q) (hf : Q + 32 ≤ 8 * bs.length) (hN : getV bs Q 16 = N) (hs : N + getV bs (Q + 16) 16 = 65535) : plainP bs most ⟨P, out, 0⟩ = plnF bs most N ⟨Q + 32, out, 0⟩ := by
  have e0 : pl0 ⟨P, out, 0⟩ = ⟨Q, out, 0⟩ := by rw [← hQ]; rfl
  have e1 : getP bs (⟨Q, out, 0⟩ : RS) 16 = (N, ⟨Q + 16, out, 0⟩) := by rw [getP_ok rfl (by show Q + 16 ≤ _; omega), ← hN]
  have e2 : getP bs (⟨Q + 16, out, 0⟩ : RS) 16 = (getV bs (Q + 16) 16, ⟨Q + 32, out, 0⟩) := by rw [getP_ok rfl (by show Q + 16 + 16 ≤ _; omega)]
  unfold plainP pl3 pl2
  rw [e0, e1]
  show plnF bs most N (if (getP bs (⟨Q + 16, out, 0⟩ : RS) 16).2.e = 0 ∧ ¬ N + (getP bs (⟨Q + 16, out, 0⟩ : RS) 16).1 = 65535 then _ else _) = _
  rw [e2, if_neg (fun h => h.2 hs)]
theorem plain_bad {bs : List UInt8} {most : Int} {P Q : Nat} {out : List UInt8} (hQ : 8 * ((P + 7) / 8) = Q) (h : ¬ (Q + 32 ≤ 8 * bs.length ∧ getV bs Q 16 + getV bs (Q + 16) 16 = 65535)) : ¬ (plainP bs most ⟨P, out, 0⟩).e = 0 := by
  have e0 : pl0 ⟨P, out, 0⟩ = ⟨Q, out, 0⟩ := by rw [← hQ]; rfl
  have key : ¬ (pl3 bs ⟨P, out, 0⟩).e = 0 := by
    unfold pl3
    by_cases h2 : (pl2 bs ⟨P, out, 0⟩).e = 0
    · have h3 : (getP bs (getP bs (⟨Q, out, 0⟩ : RS) 16).2 16).2.e = 0 := by
        unfold pl2 at h2
        rw [e0] at h2
        exact h2
      have f1 : Q + 16 ≤ 8 * bs.length := by
        apply Classical.byContradiction
        intro hc
        exact getP_err (getP_bad (s := ⟨Q, out, 0⟩) hc) h3
      rw [getP_ok (s := ⟨Q, out, 0⟩) rfl f1] at h3
      have f2 : Q + 16 + 16 ≤ 8 * bs.length := by
        apply Classical.byContradiction
        intro hc
        exact getP_bad (s := ⟨Q + 16, out, 0⟩) hc h3
      have hs : ¬ getV bs Q 16 + getV bs (Q + 16) 16 = 65535 := fun e => h ⟨by omega, e⟩
      rw [if_pos ⟨h2, by rw [e0, getP_ok (s := ⟨Q, out, 0⟩) rfl f1]; show ¬ getV bs Q 16 + (getP bs (⟨Q + 16, out, 0⟩ : RS) 16).1 = 65535; rw [getP_ok (s := ⟨Q + 16, out, 0⟩) rfl f2]; exact hs⟩]
      exact fail_e (by decide)
    · rw [if_neg (fun hh => h2 hh.1)]
      exact h2
  unfold plainP
  rw [plnF_err key]
  exact key
theorem alignQ_any (g n c P : Nat) (A : Option Addr) (w : World) (h : Arr w g (rdr A n c P)) (hP : P ≤ 8000000) :
    Calls Try.prog 65 #[.pointer (some ⟨g, 0, none⟩)] w fun e w' => e = .returned (.tuple #[]) ∧ Arr w' g (rdr A n c (8 * ((P + 7) / 8))) ∧ w.grownBy w' (some g) := by
  have c1 := h.cell (k := 1) rfl
  have f1 := h.frozen 1
  obtain ⟨Q, hQ⟩ : ∃ Q, (P + 7) / 8 = Q := ⟨_, rfl⟩
  rw [hQ]
  have e1 : ((P : Int) + 7).tdiv 8 = (Q : Int) := by rw [show (P : Int) + 7 = ((P + 7 : Nat) : Int) by omega, ← hQ]; rfl
  have e4 : ((P : Int) + 7) / 8 = (Q : Int) := by omega
  have e2 : (Q : Int) * 8 = ((8 * Q : Nat) : Int) := by omega
  have HA := Lib.hid (h.set 1 (.int .i64 ((8 * Q : Nat) : Int)))
  have HG := Lib.hid (gb_set (o := 1) (gb_refl w (some g)) (.int .i64 ((8 * Q : Nat) : Int)))
  have e3 : wrap64 ((Q : Int) * 8) = (Q : Int) * 8 := wrap64_id _ (by omega) (by omega)
  have hq8 : 8 * Q ≤ 8000008 := by omega
  clear h
  go_enter Try.func65, Try.ntmps65
  go_wp2_with fail
  (try simp only [Exit.inBlock, Exit.then])
  first | (refine bodyPost_ret (results_none rfl _ _ _) rfl ?_) | (refine bodyPost_end (results_none rfl _ _ _) rfl ?_)
  exact ⟨rfl, HA.out, HG.out⟩
section
variable (r g n c P : Nat) (A : Option Addr) (bs : List UInt8) (vo : Value) (out : List UInt8) (most : Int) (w : World)
/-- What a part of the document's reader leaves: true and the plain state, or false where the plain state is an error. -/
def IqPost (R : RS) (e : Ending) (w' : World) : Prop := ∃ ok P' vo' out', e = .returned (.bool ok) ∧ FI w' r g A n c P' bs vo' out' most ∧ RFr w w' r g vo vo' ∧ ((ok = true ∧ R = ⟨P', out', 0⟩) ∨ (ok = false ∧ ¬ R.e = 0))
set_option maxRecDepth 100000 in
set_option maxHeartbeats 3200000 in
theorem istored_any (h : FI w r g A n c P bs vo out most) (ho : (out.length : Int) ≤ most) (hm : most ≤ 1000000) :
    Calls Try.prog 33 #[.pointer (some ⟨r, 0, none⟩)] w (IqPost r g n c A bs vo most w (plainP bs most ⟨P, out, 0⟩)) := by
  obtain ⟨Q, hQ⟩ : ∃ Q, 8 * ((P + 7) / 8) = Q := ⟨_, rfl⟩
  have hbl := h.rb.len
  have hfit := h.fit
  have hbig := h.big
  have hQn : Q ≤ 8 * n := by omega
  have c0 := h.arr.cell (k := 0) rfl
  obtain ⟨Ap, cp, hvo, -, -, -⟩ := h.own.form
  subst hvo
  have HAL := Lib.hid (alignQ_any g n c P A w h.rd (by omega))
  rw [hQ] at HAL
  have HFA : Hid (∀ w1, Arr w1 g (rdr A n c Q) → w.grownBy w1 (some g) → FI w1 r g A n c Q bs (.slice Ap out.length cp) out most) := (show ∀ w1, _ from fun w1 ha hg => h.moved ha hg hQn)
  have HBAD := Lib.hid (fun hh => plain_bad (bs := bs) (most := most) (out := out) hQ hh)
  rw [hbl] at HBAD
  clear h
  by_cases f1 : Q + 16 ≤ 8 * n
  · have HG1 := Lib.hid (fun w1 (h : FI w1 r g A n c Q bs (.slice Ap out.length cp) out most) => iget_ok r g n c Q 16 A bs _ out most 16 w1 rfl h (by omega) f1)
    by_cases f2 : Q + 32 ≤ 8 * n
    · have HG2 := Lib.hid (fun w1 (h : FI w1 r g A n c (Q + 16) bs (.slice Ap out.length cp) out most) => iget_ok r g n c (Q + 16) 16 A bs _ out most 16 w1 rfl h (by omega) (by omega))
      have v1 := getV_lt bs Q 16
      have v2 := getV_lt bs (Q + 16) 16
      have HGO := Lib.hid (fun N hN hs => plain_go (bs := bs) (most := most) (out := out) (N := N) hQ (by rw [hbl]; exact f2) hN hs)
      generalize plainP bs most ⟨P, out, 0⟩ = R at *
      obtain ⟨N, hN⟩ : ∃ N, getV bs Q 16 = N := ⟨_, rfl⟩
      obtain ⟨M, hM⟩ : ∃ M, getV bs (Q + 16) 16 = M := ⟨_, rfl⟩
      rw [hN] at HG1 v1 HBAD
      rw [hM] at HG2 v2 HBAD
      have HGO2 : Hid (N + M = 65535 → R = plnF bs most N ⟨Q + 32, out, 0⟩) := (show _ → _ from fun hs => HGO.out N hN (by rw [hM]; exact hs))
      clear HGO hN hM hQ
      obtain ⟨L, hL⟩ : ∃ L, out.length = L := ⟨_, rfl⟩
      rw [hL] at ho
      have HL := Lib.hid hL
      have hsb : IntKind.i64.wrap (most - (L : Int)) = most - (L : Int) := by obtain ⟨d, hd⟩ : ∃ d : Nat, most - (L : Int) = (d : Int) := ⟨(most - (L : Int)).toNat, by omega⟩; rw [hd]; exact wrap_i64_lt d (by omega)
      have hnmw : IntKind.i64.wrap ((N : Int) + (M : Int)) = (N : Int) + (M : Int) := by rw [show (N : Int) + (M : Int) = ((N + M : Nat) : Int) by omega]; exact wrap_i64_lt _ (by omega)
      simp only [hL] at HAL HFA HG1 HG2 c0 ⊢
      clear hL
      go_enter Try.func33, Try.ntmps33
      go_upto_region 4 with (first
        | (go_at_call 65; (with_reducible refine HAL.out.mono ?_); go_must (rintro e w1 ⟨rfl, ha1, hg1⟩; have HG11 := Lib.hid (HG1.out w1 (HFA.out w1 ha1 hg1)); have HR1 := Lib.hid (RFr.ofG hg1 r (.slice Ap L cp)); clear ha1 hg1))
        | (go_at_call 32; (with_reducible refine HG11.out.mono ?_); go_must (rintro e w2 ⟨rfl, hf2, hr2⟩; have HG22 := Lib.hid (HG2.out w2 hf2); have HR2 := Lib.hid (HR1.out.trans hr2); clear hf2 hr2 HG11))
        | (go_at_call 32; (with_reducible refine HG22.out.mono ?_); go_must (rintro e w3 ⟨rfl, hf3, hr3⟩; have HF3 := Lib.hid hf3; have HR3 := Lib.hid (HR2.out.trans hr3); have c31 := hf3.arr.cell (k := 1) rfl; have c32 := hf3.arr.cell (k := 2) rfl; clear hf3 hr3 HG22)))
      by_cases hnm : N + M = 65535
      · have hnmi : (N : Int) + (M : Int) = 65535 := by omega
        have HRR := Lib.hid (HGO2.out hnm)
        by_cases hov : (N : Int) ≤ most - (L : Int)
        · have t1 : ¬ most - (L : Int) < (N : Int) := by omega
          go_quiet (fail)
          have HF30 : Hid (FI (w3.drewN nq) r g A n c (Q + 32) bs (.slice Ap L cp) out most) := (show FI _ _ _ _ _ _ _ _ _ _ _ from by have h9 := HF3.out.drewN nq; rw [Nat.add_assoc] at h9; exact h9)
          have HR30 := Lib.hid (HR3.out.drewN nq)
          have hN16 : N < 65536 := v1
          clear HAL HFA HG1 HG2 HGO2 HBAD c31 c32 v1 v2 HF3 HR3
          go_wp2_with fail
          go_loopw [7] (fun vi wr => ∃ (i P' : Nat) (vq : Value) (out' : List UInt8), i ≤ N ∧ vi = .int .i64 i ∧ out'.length = L + i ∧ Hid (FI wr r g A n c P' bs vq out' most) ∧ Hid (RFr w wr r g (.slice Ap L cp) vq) ∧ Hid (R = plnF bs most (N - i) ⟨P', out', 0⟩)) (fun vi _ => N - (intOf vi).toNat)
          case atStart => exact ⟨0, _, _, out, Nat.zero_le _, rfl, HL.out, HF30, HR30, HRR⟩
          case round =>
            clear HF30 HR30 HRR HR1 HR2
            obtain ⟨i, P', vq, out', hi, rfl, hlo, HF, HR, HQ⟩ := hrel
            have HLO := Lib.hid hlo
            obtain ⟨l', hl'⟩ : ∃ l', out'.length = l' := ⟨_, rfl⟩
            rw [hl'] at hlo
            by_cases hlt : i < N
            · have hlti : (i : Int) < (N : Int) := by omega
              have HQ2 : Hid (R = plnF bs most (N - (i + 1) + 1) ⟨P', out', 0⟩) := (show _ = _ by rw [HQ.out, show N - (i + 1) + 1 = N - i by omega])
              by_cases hf : P' + 8 ≤ 8 * n
              · have HG := Lib.hid (iget_ok r g n c P' 8 A bs vq out' most 8 wr rfl HF.out (by omega) hf)
                have hv := getV_lt bs P' 8
                obtain ⟨x, hx⟩ : ∃ x : UInt8, getV bs P' 8 = x.toNat := ⟨UInt8.ofNat (getV bs P' 8), by rw [UInt8.toNat_ofNat']; exact (Nat.mod_eq_of_lt (by omega)).symm⟩
                have HST : Hid (R = plnF bs most (N - (i + 1)) ⟨P' + 8, out' ++ [x], 0⟩) := (show _ = _ by rw [HQ2.out, plnF_ok (by rw [hbl]; exact hf) (by rw [hl']; omega), hx]; simp)
                rw [hx] at HG
                have hx8 := x.toNat_lt
                have hx9 : (x.toNat : Int) % 256 = (x.toNat : Int) := Int.emod_eq_of_lt (by omega) (by omega)
                obtain ⟨Aq, cq, hvq, -, -, -⟩ := HF.out.own.form
                subst hvq
                rw [hl'] at HF HR HG
                have hlen2 : out'.length + 1 ≤ 140737488355328 := by rw [hl']; omega
                have HLO2 : Hid ((out' ++ [x]).length = L + (i + 1)) := (show _ = _ by rw [List.length_append, hl', hlo]; show L + i + 1 = _; omega)
                clear hx hv HQ HQ2 hl' HLO hlo
                go_wp2_with (first
                  | (go_at_call 32; (with_reducible refine HG.out.mono ?_); go_must (rintro e w5 ⟨rfl, hf5, hr5⟩; have HF5 := Lib.hid hf5; have HR5 := Lib.hid (HR.out.trans hr5); have c51 := hf5.arr.cell (k := 1) rfl; have hr5l : r < w5.heap.size := hf5.arr.lt; have hr5m : r + 1 ≤ w5.heap.size + 1 := (by omega); clear hf5 hr5))
                  | (at_builtin; go_must (refine wpList_appendB rfl (.tmp 67) (.tmp 70) rfl (r + 1) (.slice Aq l' cq) out' rfl (ownB.alloc HF5.out.own _) (w5.heap.size + 1) 1 1 (some ⟨w5.heap.size, 0, none⟩) [x] rfl (rd_one w5 (x.toNat : Int) x rfl) hlen2 (by rw [World.size_alloc]; exact hr5m) ?_; intro v6 w6 hown hgb hbl6 hat; obtain ⟨A6, c6, rfl, -, -, -⟩ := hown.form; obtain ⟨hf6, hr6, c61, f61⟩ := HF5.out.gave hown hgb hbl6 hat; obtain ⟨l6, hl6⟩ : ∃ l, (out' ++ [x]).length = l := ⟨_, rfl⟩; rw [hl6] at hf6 hr6 ⊢; clear hl6; have HF6 := Lib.hid hf6; have HR6 := Lib.hid (HR5.out.trans hr6); clear hf6 hr6 hown hgb hbl6 hat)))
                go_roundw
                case rel => exact ⟨i + 1, P' + 8, _, out' ++ [x], by omega, by go_num, HLO2.out, HF6, HR6, HST⟩
                case measure => simp [intOf]; omega
              · have HG := Lib.hid (iget_bad r g n c P' 8 A bs vq out' most 8 wr rfl HF.out (by omega) hf)
                have HE : Hid (¬ R.e = 0) := (show ¬ _ by rw [HQ2.out]; exact plnF_short (by rw [hbl]; exact hf))
                go_wp2_with (go_at_call 32; (with_reducible refine HG.out.mono ?_); go_must (rintro e w5 ⟨rfl, hf5, hr5⟩; have HF5 := Lib.hid hf5; have HR5 := Lib.hid (HR.out.trans hr5); clear hf5 hr5))
                go_ret
                unfold IqPost
                exact ⟨false, _, _, _, rfl, HF5.out, HR5.out, .inr ⟨rfl, HE.out⟩⟩
            · obtain rfl : i = N := by omega
              have hlti : ¬ (i : Int) < (i : Int) := by omega
              have HE : Hid (R = ⟨P', out', 0⟩) := (show _ = _ by rw [HQ.out, Nat.sub_self]; rfl)
              go_wp2_with fail
              go_ret
              unfold IqPost
              exact ⟨true, _, _, _, rfl, HF.out, HR.out, .inl ⟨rfl, HE.out⟩⟩
        · have t1 : most - (L : Int) < (N : Int) := by omega
          have HE : Hid (¬ R.e = 0) := (show ¬ _ by rw [HRR.out]; exact plnF_over N rfl (by show ((out.length : Nat) : Int) ≤ most; rw [HL.out]; exact ho) (by show most < ((out.length : Nat) : Int) + _; rw [HL.out]; omega))
          go_quiet (fail)
          go_wp2_with fail
          go_ret
          unfold IqPost
          exact ⟨false, _, _, _, rfl, HF3.out.drewN _, HR3.out.drewN _, .inr ⟨rfl, HE.out⟩⟩
      · have d3 : ((N : Int) + (M : Int) != 65535) = true := by rw [bne_iff_ne]; omega
        have HE := Lib.hid (HBAD.out (fun hh => hnm hh.2))
        go_quiet (fail)
        go_wp2_with fail
        go_ret
        unfold IqPost
        exact ⟨false, _, _, _, rfl, HF3.out.drewN _, HR3.out.drewN _, .inr ⟨rfl, HE.out⟩⟩
    · have HG2 := Lib.hid (fun w1 (h : FI w1 r g A n c (Q + 16) bs (.slice Ap out.length cp) out most) => iget_bad r g n c (Q + 16) 16 A bs _ out most 16 w1 rfl h (by omega) (by omega))
      have HE := Lib.hid (HBAD.out (fun hh => f2 hh.1))
      generalize plainP bs most ⟨P, out, 0⟩ = R at *
      generalize getV bs Q 16 = N at *
      clear HBAD
      go_enter Try.func33, Try.ntmps33
      go_upto_region 4 with (first
        | (go_at_call 65; (with_reducible refine HAL.out.mono ?_); go_must (rintro e w1 ⟨rfl, ha1, hg1⟩; have HG11 := Lib.hid (HG1.out w1 (HFA.out w1 ha1 hg1)); have HR1 := Lib.hid (RFr.ofG hg1 r (.slice Ap out.length cp)); clear ha1 hg1))
        | (go_at_call 32; (with_reducible refine HG11.out.mono ?_); go_must (rintro e w2 ⟨rfl, hf2, hr2⟩; have HG22 := Lib.hid (HG2.out w2 hf2); have HR2 := Lib.hid (HR1.out.trans hr2); clear hf2 hr2 HG11))
        | (go_at_call 32; (with_reducible refine HG22.out.mono ?_); go_must (rintro e w3 ⟨rfl, hf3, hr3⟩; have HF3 := Lib.hid hf3; have HR3 := Lib.hid (HR2.out.trans hr3); clear hf3 hr3 HG22)))
      go_quiet (fail)
      go_wp2_with fail
      go_ret
      unfold IqPost
      exact ⟨false, _, _, _, rfl, HF3.out.drewN _, HR3.out.drewN _, .inr ⟨rfl, HE.out⟩⟩
  · have HG1 := Lib.hid (fun w1 (h : FI w1 r g A n c Q bs (.slice Ap out.length cp) out most) => iget_bad r g n c Q 16 A bs _ out most 16 w1 rfl h (by omega) f1)
    have HG2 := HG1
    have HE := Lib.hid (HBAD.out (fun hh => f1 (Nat.le_trans (by omega) hh.1)))
    generalize plainP bs most ⟨P, out, 0⟩ = R at *
    clear HBAD
    go_enter Try.func33, Try.ntmps33
    go_upto_region 4 with (first
      | (go_at_call 65; (with_reducible refine HAL.out.mono ?_); go_must (rintro e w1 ⟨rfl, ha1, hg1⟩; have HG11 := Lib.hid (HG1.out w1 (HFA.out w1 ha1 hg1)); have HR1 := Lib.hid (RFr.ofG hg1 r (.slice Ap out.length cp)); clear ha1 hg1))
      | (go_at_call 32; (with_reducible refine HG11.out.mono ?_); go_must (rintro e w2 ⟨rfl, hf2, hr2⟩; have HG22 := Lib.hid (HG2.out w2 hf2); have HR2 := Lib.hid (HR1.out.trans hr2); clear hf2 hr2 HG11))
      | (go_at_call 32; (with_reducible refine HG22.out.mono ?_); go_must (rintro e w3 ⟨rfl, hf3, hr3⟩; have HF3 := Lib.hid hf3; have HR3 := Lib.hid (HR2.out.trans hr3); clear hf3 hr3 HG22)))
    go_quiet (fail)
    go_wp2_with fail
    go_ret
    unfold IqPost
    exact ⟨false, _, _, _, rfl, HF3.out.drewN _, HR3.out.drewN _, .inr ⟨rfl, HE.out⟩⟩
end
end Go.Proofs.Yteoolehdomjkkaa
