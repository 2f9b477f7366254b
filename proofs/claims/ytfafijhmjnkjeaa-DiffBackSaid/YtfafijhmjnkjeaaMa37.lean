/- Merged: RdS, Rd12, Rd13. -/
import Derived.Test.YtfafijhmjnkjeaaMa35
import Derived.Test.YtfafijhmjnkjeaaMa25
import Derived.Test.YtfafijhmjnkjeaaMa36
import Derived.Test.YtfafijhmjnkjeaaMa02
import Derived.Test.YtfafijhmjnkjeaaMa33
/- flate: all blocks, plainly; how far a reader comes. -/
namespace Go.Proofs.Ytfafijhmjnkjeaa
set_option linter.all false

theorem nextP_m (bs : List UInt8) (ls : List Int) (s : RS) : s.p ≤ (nextP bs ls s).2.p := by
  unfold nextP
  split
  · have key : ∀ f t v P, P ≤ (nx ls bs f t v P).2.2 := fun f => by
      induction f with
      | zero => intro t v P; exact Nat.le_refl _
      | succ f ih =>
        intro t v P
        rw [nx]
        split
        · exact Nat.le_refl _
        · split
          · exact Nat.le_succ P
          · have := ih (t + 1) (v * 2 + bitAt bs P) (P + 1)
            omega
    exact key 15 1 0 s.p
  · exact Nat.le_refl _
theorem copyP_m (bs : List UInt8) (most : Int) (s : RS) (q : Nat) (dl : Option (List Int)) : s.p ≤ (copyP bs most s q dl).p := by
  have h1 := getP_p bs s (lenOf (q - 257)).2
  unfold copyP
  split
  · rw [fail_p]; exact Nat.le_refl _
  · split
    · refine Nat.le_trans h1 ?_
      cases dl with
      | none =>
        show _ ≤ (RS.fail _ 1).p
        rw [fail_p]
        exact Nat.le_refl _
      | some ds =>
        rw [cpB]
        have h1 := nextP_m bs ds (getP bs s (lenOf (q - 257)).2).2
        split
        · rw [fail_p]; exact h1
        · rw [copiesP_p]
          exact Nat.le_trans h1 (getP_p bs _ _)
    · exact h1
theorem toksF_m (bs : List UInt8) (most : Int) (ll : List Int) (dl : Option (List Int)) : ∀ (f : Nat) (s : RS), s.p ≤ (toksF bs most ll dl f s).p
  | 0, s => Nat.le_refl _
  | f + 1, s => by
    have h1 := nextP_m bs ll s
    rw [toksF]
    split
    · split
      · split
        · exact h1
        · split
          · refine Nat.le_trans h1 (Nat.le_trans ?_ (toksF_m bs most ll dl f _))
            rw [givesP_p]
            exact Nat.le_refl _
          · exact Nat.le_trans h1 (Nat.le_trans (copyP_m bs most _ _ dl) (toksF_m bs most ll dl f _))
      · exact h1
    · exact Nat.le_refl _
theorem plnF_m (bs : List UInt8) (most : Int) : ∀ (k : Nat) (s : RS), s.p ≤ (plnF bs most k s).p
  | 0, s => Nat.le_refl _
  | k + 1, s => by
    have h1 := getP_p bs s 8
    rw [plnF]
    split
    · split
      · refine Nat.le_trans h1 (Nat.le_trans ?_ (plnF_m bs most k _))
        rw [givesP_p]
        exact Nat.le_refl _
      · exact h1
    · exact Nat.le_refl _
theorem plainP_m (bs : List UInt8) (most : Int) (s : RS) : s.p ≤ (plainP bs most s).p := by
  have h0 : s.p ≤ (pl0 s).p := by show s.p ≤ 8 * ((s.p + 7) / 8); omega
  have h1 : (pl0 s).p ≤ (pl2 bs s).p := Nat.le_trans (getP_p bs (pl0 s) 16) (getP_p bs _ 16)
  have h2 : (pl3 bs s).p = (pl2 bs s).p := by
    unfold pl3
    split
    · exact fail_p _ _
    · rfl
  unfold plainP
  refine Nat.le_trans (Nat.le_trans h0 h1) ?_
  rw [← h2]
  exact plnF_m bs most _ _
theorem lenRd_m (bs : List UInt8) : ∀ (ks : List Nat) (l : List Int) (s : RS), s.p ≤ (lenRd bs ks l s).2.p
  | [], l, s => Nat.le_refl _
  | k :: ks, l, s => Nat.le_trans (getP_p bs s 3) (lenRd_m bs ks _ _)
theorem repP_p (l : List Int) (x : Int) (n all : Nat) (s : RS) : (repP l x n all s).2.p = s.p := by
  have : (rep0 l n all s).p = s.p := by
    unfold rep0
    split
    · exact fail_p s 4
    · rfl
  unfold repP
  split <;> exact this
theorem listF_m (bs : List UInt8) (ls : List Int) (all : Nat) : ∀ (f : Nat) (l : List Int) (s : RS), s.p ≤ (listF bs ls all f l s).2.p
  | 0, l, s => Nat.le_refl _
  | f + 1, l, s => by
    have h1 := nextP_m bs ls s
    have rp : ∀ (x : Int) (k m : Nat), s.p ≤ (listF bs ls all f (repP l x k all (getP bs (nextP bs ls s).2 m).2).1 (repP l x k all (getP bs (nextP bs ls s).2 m).2).2).2.p := fun x k m => by
      refine Nat.le_trans (Nat.le_trans h1 ?_) (listF_m bs ls all f _ _)
      rw [repP_p]
      exact getP_p bs _ m
    rw [listF]
    split
    · split
      · split
        · exact Nat.le_trans h1 (listF_m bs ls all f _ _)
        · split
          · split
            · show _ ≤ (RS.fail _ 4).p
              rw [fail_p]; exact h1
            · exact rp _ _ _
          · split
            · exact rp _ _ _
            · exact rp _ _ _
      · exact h1
    · exact Nat.le_refl _
theorem ownLs_m (bs : List UInt8) (s : RS) : s.p ≤ (ownLs bs s).2.p := by
  have hA : s.p ≤ (hdA bs s).p := by
    unfold hdA
    split
    · rw [fail_p]; exact getP_p bs s 5
    · exact getP_p bs s 5
  have hB : (hdA bs s).p ≤ (hdB bs s).p := by
    unfold hdB
    split
    · rw [fail_p]; exact getP_p bs _ 5
    · exact getP_p bs _ 5
  have hL : (hdB bs s).p ≤ (hdL bs s).2.p := Nat.le_trans (getP_p bs _ 4) (lenRd_m bs _ _ _)
  refine Nat.le_trans hA (Nat.le_trans hB (Nat.le_trans hL ?_))
  unfold ownLs
  cases decD (hdL bs s).1 (hdL bs s).2 with
  | none =>
    show _ ≤ (decP _ _ _).p
    rw [decP_p]
    exact Nat.le_refl _
  | some ls =>
    refine Nat.le_trans ?_ (listF_m bs ls _ _ [] _)
    rw [decP_p]
    exact Nat.le_refl _
theorem own3_p (all : List Int) (n : Nat) (s : RS) : (own3 all n s).p = s.p := by
  have h1 : (own1 all s).p = s.p := by
    unfold own1
    split
    · exact fail_p s 4
    · rfl
  have h2 : (own2 all n s).p = s.p := by unfold own2; rw [decP_p, h1]
  unfold own3
  split
  · exact h2
  · rw [decP_p, h2]
theorem rownP_m (bs : List UInt8) (most : Int) (f : Nat) (s : RS) : s.p ≤ (rownP bs most f s).p := by
  refine Nat.le_trans (ownLs_m bs s) ?_
  unfold rownP ownT
  split
  · split
    · refine Nat.le_trans ?_ (toksF_m bs most _ _ f _)
      rw [own3_p]
      exact Nat.le_refl _
    · rw [own3_p]
      exact Nat.le_refl _
  · exact Nat.le_refl _
theorem toksF_le {bs : List UInt8} {most : Int} {ll : List Int} {dl : Option (List Int)} : ∀ (f : Nat) {s : RS}, (s.out.length : Int) ≤ most → ((toksF bs most ll dl f s).out.length : Int) ≤ most
  | 0, s, h => h
  | f + 1, s, h => by
    have h1 : (((nextP bs ll s).2.out.length : Nat) : Int) ≤ most := by rw [nextP_out]; exact h
    rw [toksF]
    split
    · split
      · split
        · exact h1
        · split
          · exact toksF_le f (givesP_le h1)
          · exact toksF_le f (copyP_le h1)
      · exact h1
    · exact h
theorem rownP_le {bs : List UInt8} {most : Int} {f : Nat} {s : RS} (h : (s.out.length : Int) ≤ most) : ((rownP bs most f s).out.length : Int) ≤ most := by
  have h1 : (((ownLs bs s).2.out.length : Nat) : Int) ≤ most := by rw [ownLs_out]; exact h
  have ho1 : ∀ all t, (own1 all t).out = t.out := fun all t => by
    unfold own1
    split
    · exact fail_out t 4
    · rfl
  have ho2 : ∀ all n t, (own2 all n t).out = t.out := fun all n t => by unfold own2; rw [decP_out, ho1]
  have ho3 : ∀ all n t, (own3 all n t).out = t.out := fun all n t => by
    unfold own3
    split
    · exact ho2 _ _ _
    · rw [decP_out, ho2]
  unfold rownP ownT
  split
  · split
    · exact toksF_le f (by rw [ho3]; exact h1)
    · rw [ho3]; exact h1
  · exact h1
/-- A block's first bits. -/
def blk0 (bs : List UInt8) (s : RS) : Nat := (getP bs s 1).1
def blk1 (bs : List UInt8) (s : RS) : Nat := (getP bs (getP bs s 1).2 2).1
def blk2 (bs : List UInt8) (s : RS) : RS := (getP bs (getP bs s 1).2 2).2
def kindP (bs : List UInt8) (most : Int) (f k : Nat) (s : RS) : RS := if k = 0 then plainP bs most s else if k = 1 then rfixP bs most f s else if k = 2 then rownP bs most f s else s.fail 4
def blkP (bs : List UInt8) (most : Int) (f : Nat) (s : RS) : RS := kindP bs most f (blk1 bs s) (blk2 bs s)
/-- Blocks up to the last one. -/
def infF (bs : List UInt8) (most : Int) (f : Nat) : Nat → RS → RS
  | 0, s => s
  | k + 1, s => if s.e = 0 then (if blk0 bs s = 0 then infF bs most f k (blkP bs most f s) else blkP bs most f s) else s
def infS (bs : List UInt8) (most : Int) : RS := infF bs most (8 * bs.length + 1) (8 * bs.length + 1) ⟨0, [], 0⟩
def inflP (bs : List UInt8) (most : Int) : List UInt8 × Nat × Int :=
  if most < 0 ∨ 40000 < most then ([], 0, 1) else if (infS bs most).e = 0 then ((infS bs most).out, ((infS bs most).p + 7) / 8, 0) else ([], 0, (infS bs most).e)
theorem infF_err {bs : List UInt8} {most : Int} {f k : Nat} {s : RS} (h : ¬ s.e = 0) : infF bs most f k s = s := by
  cases k with
  | zero => rfl
  | succ k => exact if_neg h
theorem blk2_out (bs : List UInt8) (s : RS) : (blk2 bs s).out = s.out := by unfold blk2; rw [getP_out, getP_out]
theorem kindP_le {bs : List UInt8} {most : Int} {f k : Nat} {s : RS} (h : (s.out.length : Int) ≤ most) : ((kindP bs most f k s).out.length : Int) ≤ most := by
  unfold kindP
  split
  · exact plainP_le h
  · split
    · exact toksF_le f h
    · split
      · exact rownP_le h
      · rw [fail_out]; exact h
theorem kindP_m (bs : List UInt8) (most : Int) (f k : Nat) (s : RS) : s.p ≤ (kindP bs most f k s).p := by
  unfold kindP
  split
  · exact plainP_m bs most s
  · split
    · exact toksF_m bs most _ _ f s
    · split
      · exact rownP_m bs most f s
      · rw [fail_p]; exact Nat.le_refl _
/-- No error of getting bits goes away. -/
theorem getP_e0 {bs : List UInt8} {s : RS} {m : Nat} (h : (getP bs s m).2.e = 0) : s.e = 0 ∧ (getP bs s m).2.p = s.p + m := by
  unfold getP at h ⊢
  by_cases he : s.e = 0
  · rw [if_pos he] at h ⊢
    by_cases h2 : s.p + m ≤ 8 * bs.length
    · rw [if_pos h2]; exact ⟨he, rfl⟩
    · rw [if_neg h2] at h
      exact absurd h (show ¬ (2 : Int) = 0 by decide)
  · rw [if_neg he] at h
    exact absurd h he
theorem getP_v0 {bs : List UInt8} {s : RS} {m : Nat} (h : ¬ (getP bs s m).1 = 0) : (getP bs s m).2.e = 0 := by
  unfold getP at h ⊢
  by_cases he : s.e = 0
  · rw [if_pos he] at h ⊢
    by_cases h2 : s.p + m ≤ 8 * bs.length
    · rw [if_pos h2]
    · rw [if_neg h2] at h
      exact absurd rfl h
  · rw [if_neg he] at h
    exact absurd rfl h
/-- An error does not go away. -/
theorem fail_e0 {s : RS} {e : Int} (h : (s.fail e).e = 0) : s.e = 0 := by
  unfold RS.fail at h
  split at h
  · assumption
  · assumption
theorem plainP_err {bs : List UInt8} {most : Int} {s : RS} (h : ¬ s.e = 0) : ¬ (plainP bs most s).e = 0 := by
  have h0 : ¬ (pl0 s).e = 0 := h
  have h1 : ¬ (pl2 bs s).e = 0 := fun hh => h0 (getP_e0 (getP_e0 hh).1).1
  have h3 : ¬ (pl3 bs s).e = 0 := by
    unfold pl3
    split
    · exact fun hh => h1 (fail_e0 hh)
    · exact h1
  unfold plainP
  rw [plnF_err h3]
  exact h3
theorem decP_e0 {ls : List Int} {a : Bool} {s : RS} (h : (decP ls a s).e = 0) : s.e = 0 := (decP_zero h).1
theorem lenRd_e0 (bs : List UInt8) : ∀ (ks : List Nat) (l : List Int) (s : RS), (lenRd bs ks l s).2.e = 0 → s.e = 0
  | [], l, s, h => h
  | k :: ks, l, s, h => (getP_e0 (lenRd_e0 bs ks _ _ h)).1
theorem listD_e0 {bs : List UInt8} {D : Option (List Int)} {all : Nat} {s : RS} (h : (listD bs D all s).2.e = 0) : s.e = 0 := by
  cases D with
  | none => exact h
  | some ls =>
    by_cases he : s.e = 0
    · exact he
    · have : listD bs (some ls) all s = ([], s) := listF_stop (fun hh => he hh.2)
      rw [this] at h
      exact h
theorem rownP_err {bs : List UInt8} {most : Int} {f : Nat} {s : RS} (h : ¬ s.e = 0) : ¬ (rownP bs most f s).e = 0 := by
  have h1 : ¬ (ownLs bs s).2.e = 0 := fun hh => by
    have h2 := lenRd_e0 bs _ _ _ (decP_e0 (listD_e0 hh))
    have h3 := (getP_e0 h2).1
    have h4 : (hdA bs s).e = 0 := by
      unfold hdB at h3
      split at h3
      · exact (getP_e0 (fail_e0 h3)).1
      · exact (getP_e0 h3).1
    unfold hdA at h4
    split at h4
    · exact h (getP_e0 (fail_e0 h4)).1
    · exact h (getP_e0 h4).1
  unfold rownP ownT
  rw [if_neg h1]
  exact h1
theorem kindP_err {bs : List UInt8} {most : Int} {f k : Nat} {s : RS} (h : ¬ s.e = 0) : ¬ (kindP bs most f k s).e = 0 := by
  unfold kindP
  split
  · exact plainP_err h
  · split
    · unfold rfixP; rw [toksF_err h]; exact h
    · split
      · exact rownP_err h
      · exact fun hh => h (fail_e0 hh)
/-- A block that is read whole takes bits. -/
theorem blkP_p {bs : List UInt8} {most : Int} {f : Nat} {s : RS} (h : (blkP bs most f s).e = 0) : s.p + 3 ≤ (blkP bs most f s).p := by
  have h1 : (blk2 bs s).e = 0 := Decidable.byContradiction fun hh => kindP_err hh h
  obtain ⟨h2, h3⟩ := getP_e0 h1
  obtain ⟨h4, h5⟩ := getP_e0 h2
  have h6 := kindP_m bs most f (blk1 bs s) (blk2 bs s)
  have h7 : (blk2 bs s).p = s.p + 1 + 2 := by unfold blk2; rw [h3, h5]
  unfold blkP
  omega
theorem fixL_dec (s : RS) : decP fixL false s = s := by
  by_cases he : s.e = 0
  · unfold decP
    rw [if_pos he, if_pos (show nwE fixL = 0 by decide +kernel), if_neg (show ¬ decBad fixL false from fun h => absurd h.1 (show ¬ krV fixL < 32768 by decide +kernel))]
  · exact if_neg he
theorem fixD_dec (s : RS) : decP fixD false s = s := by
  by_cases he : s.e = 0
  · unfold decP
    rw [if_pos he, if_pos (show nwE fixD = 0 by decide +kernel), if_neg (show ¬ decBad fixD false from fun h => absurd h.1 (show ¬ krV fixD < 32768 by decide +kernel))]
  · exact if_neg he
end Go.Proofs.Ytfafijhmjnkjeaa

/- flate: the reader of blocks, whatever comes: a block of the fixed codes. -/
namespace Go.Proofs.Ytfafijhmjnkjeaa
set_option linter.all false
open Go.RowKit

theorem RdI.rfr {w w' : World} {r g B b o n : Nat} {vo vo' : Value} {l : List Int} (h : RdI w B (some ⟨b, o, none⟩) n l) (hf : RFr w w' r g vo vo') (hb : b < w.heap.size) (hr : b ≠ r) (hg : b ≠ g) (hv : vo.ownBlock ≠ some b) : RdI w' B (some ⟨b, o, none⟩) n l := by
  refine ⟨h.1, fun hn => ?_⟩
  obtain ⟨b', o', e, hlt, hc⟩ := h.2 hn
  injection e with e
  injection e with e1 e2 e3
  subst e1 e2
  exact ⟨_, _, rfl, hlt, fun j u hu => (World.cell?_of_block (hf.block b hb hr hg hv)).trans (hc j u hu)⟩
section
variable (r g n c : Nat) (A : Option Addr) (bs : List UInt8) (most : Int) (vo : Value) (s : RS) (w : World)
set_option maxRecDepth 100000 in
set_option maxHeartbeats 3200000 in
theorem rfixed_any (f : Nat) (h : FS w r g A n c bs most vo s) (he : s.e = 0) (hm : most ≤ 1000000) (ho : (s.out.length : Int) ≤ most) (hf : 8 * n + 1 ≤ f) :
    Calls Try.prog 28 #[.pointer (some ⟨r, 0, none⟩)] w fun e w' => e = .returned (.tuple #[]) ∧ ∃ vo', FS w' r g A n c bs most vo' (rfixP bs most f s) ∧ RFr w w' r g vo vo' := by
  have hrw := (FR.arr h).lt
  have hgr := FR.gr h
  have HVO : Hid (∀ k, vo.ownBlock = some k → k < w.heap.size) := (show ∀ k, _ from fun k hk => (World.ownsRow.lt (FR.own h) k hk).2)
  have H := Lib.hid h
  have hDL : decD fixL s = some fixL := if_pos ⟨he, by decide +kernel⟩
  have hDD : decD fixD s = some fixD := if_pos ⟨he, by decide +kernel⟩
  have HDC : Hid (∀ w1 cl b, FS w1 r g A n c bs most vo s → RdI w1 w1.heap.size (some ⟨b, 0, none⟩) 288 fixL → Calls Try.prog 60 #[.pointer (some ⟨r, 0, none⟩), .slice (some ⟨b, 0, none⟩) 288 cl, .bool false] w1 fun e w' => ∃ dv, e = .returned dv ∧ FS w' r g A n c bs most vo s ∧ RFr w1 w' r g vo vo ∧ DV w' r g vo dv (some fixL)) := (show ∀ w1 cl b, _ from fun w1 cl b h hr => by
    have := rdecoder_any r g n c A bs most vo s w1 w1.heap.size 288 cl (some ⟨b, 0, none⟩) fixL false h hr (Nat.le_refl _) (by omega)
    rwa [fixL_dec, hDL] at this)
  have HDD : Hid (∀ w1 B cl b, B ≤ w1.heap.size → FS w1 r g A n c bs most vo s → RdI w1 B (some ⟨b, 0, none⟩) 32 fixD → Calls Try.prog 60 #[.pointer (some ⟨r, 0, none⟩), .slice (some ⟨b, 0, none⟩) 32 cl, .bool false] w1 fun e w' => ∃ dv, e = .returned dv ∧ FS w' r g A n c bs most vo s ∧ RFr w1 w' r g vo vo ∧ DV w' r g vo dv (some fixD)) := (show ∀ w1 B cl b, _ from fun w1 B cl b hB h hr => by
    have := rdecoder_any r g n c A bs most vo s w1 B 32 cl (some ⟨b, 0, none⟩) fixD false h hr hB (by omega)
    rwa [fixD_dec, hDD] at this)
  have HTK : Hid (∀ w1 gl dv, FS w1 r g A n c bs most vo s → DK w1 r g vo gl fixL → OkL fixL → DV w1 r g vo dv (some fixD) → Calls Try.prog 59 #[.pointer (some ⟨r, 0, none⟩), .pointer (some ⟨gl, 0, none⟩), dv] w1 fun e w' => e = .returned (.tuple #[]) ∧ ∃ vo', FS w' r g A n c bs most vo' (rfixP bs most f s) ∧ RFr w1 w' r g vo vo') := (show ∀ w1 gl dv, _ from fun w1 gl dv h1 h2 h3 h4 => rtokens_any r g n c A bs most vo s w1 gl fixL dv (some fixD) f h1 h2 h3 h4 hm ho (by omega))
  clear h hDL hDD
  generalize rfixP bs most f s = R at *
  go_enter Try.func28, Try.ntmps28
  go_wp2_with (first
    | (go_at_call 48; (with_reducible refine (fixed_any w).mono ?_); go_must (rintro e w1 ⟨gl, cl, gd, cd, rfl, hgl, hgd, hrl, hrd, hb1⟩; have HF1 : Hid (FS w1 r g A n c bs most vo s) := (show FS _ _ _ _ _ _ _ _ _ _ from FR.later H.out hb1); have HR1 := Lib.hid (RFr.ofB hb1 r g vo); have HDC1 := Lib.hid (HDC.out w1 cl gl HF1.out hrl); have HRD := Lib.hid hrd; have hs1 := hb1.size; have hgd1 : gd < w1.heap.size := (by obtain ⟨b, o, e, hb, -⟩ := hrd.at_ (by omega); injection e with e; injection e with e; omega); clear hrl hrd hb1))
    | (go_at_call 60; (with_reducible refine HDC1.out.mono ?_); go_must (rintro e w2 ⟨d2, rfl, hf2, hr2, hd2⟩; have HR2 := Lib.hid (HR1.out.trans hr2); have HD2 := Lib.hid hd2; have HDD2 := Lib.hid (HDD.out w2 w1.heap.size cd gd hr2.size hf2 (RdI.rfr HRD.out hr2 hgd1 (by omega) (by omega) (fun e => by have := HVO.out gd e; omega))); clear hf2 hr2 hd2))
    | (go_at_call 60; (with_reducible refine HDD2.out.mono ?_); go_must (rintro e w3 ⟨d3, rfl, hf3, hr3, hd3⟩; rcases HD2.out with ⟨-, h0⟩ | ⟨gq, ds, rfl, h0, h1, h2⟩; (· cases h0); injection h0 with h0; subst h0; have HR3 := Lib.hid (HR2.out.trans hr3); have HTK3 := Lib.hid (HTK.out w3 gq d3 hf3 (h1.fr hr3) h2 hd3); clear hf3 hr3 hd3 h1 h2))
    | (go_at_call 59; (with_reducible refine HTK3.out.mono ?_); go_must (rintro e w4 ⟨rfl, vo', hf4, hr4⟩; have HF4 := Lib.hid hf4; have HR4 := Lib.hid (HR3.out.trans hr4); clear hf4 hr4)))
  (try simp only [Exit.inBlock, Exit.then]); first | (refine bodyPost_ret (results_none rfl _ _ _) rfl ?_) | (refine bodyPost_end (results_none rfl _ _ _) rfl ?_)
  exact ⟨rfl, vo', HF4.out, HR4.out⟩
/-- A block of whatever kind. -/
theorem rkind1_any (f : Nat) (h : FS w r g A n c bs most vo s) (he : s.e = 0) (hm : most ≤ 1000000) (ho : (s.out.length : Int) ≤ most) (hf : 8 * n + 1 ≤ f) :
    Calls Try.prog 28 #[.pointer (some ⟨r, 0, none⟩)] w fun e w' => e = .returned (.tuple #[]) ∧ ∃ vo', FS w' r g A n c bs most vo' (rfixP bs most f s) ∧ RFr w w' r g vo vo' := rfixed_any r g n c A bs most vo s w f h he hm ho hf
end
end Go.Proofs.Ytfafijhmjnkjeaa

/- flate: Inflate, whatever comes. -/
namespace Go.Proofs.Ytfafijhmjnkjeaa
set_option linter.all false
open Go.RowKit

def imeas (n g r : Nat) (vi : Value) (w : World) : Nat := if intOf vi = 0 ∧ errOf w r = 0 then 8 * n + 1 - posOf w g else 0
set_option maxRecDepth 100000 in
set_option maxHeartbeats 6400000 in
theorem inflate_all (B n c : Nat) (A : Option Addr) (bs : List UInt8) (most : Int) (w : World) (h : RdB w B A n bs) (hB : B ≤ w.heap.size) (hn : n ≤ 1000000) :
    Calls Try.prog 9 #[.slice A n c, .int .i64 most] w fun e w' => ∃ v, e = .returned (.tuple #[v, .int .i64 ((inflP bs most).2.1 : Int), .int .i64 (inflP bs most).2.2]) ∧ ownB w' w.heap.size v (inflP bs most).1 ∧ Below w.heap.size w w' := by
  by_cases hmost : most < 0 ∨ 40000 < most
  · have HP : Hid (inflP bs most = ([], 0, 1)) := (show _ = _ from if_pos hmost)
    rw [HP.out]
    clear h
    go_enter Try.func9, Try.ntmps9
    rcases hmost with h1 | h1
    · have t1 : decide (most < 0) = true := decide_eq_true h1
      go_wp2_with fail
      go_ret3
      exact ⟨_, rfl, ownB.nil_ _ _, Below.refl _ _⟩
    · have t1 : decide (most < 0) = false := decide_eq_false (by omega)
      have t2 : decide (most > 40000) = true := decide_eq_true h1
      have t3 : ¬ most < 0 := by omega
      go_wp2_with fail
      go_ret3
      exact ⟨_, rfl, ownB.nil_ _ _, Below.refl _ _⟩
  · have hn1 : ¬ most < 0 := fun h => hmost (.inl h)
    have hn2 : ¬ 40000 < most := fun h => hmost (.inr h)
    have h0 : 0 ≤ most := by omega
    have hm : most ≤ 40000 := by omega
    have hlb : bs.length = n := h.len
    have HP : Hid (inflP bs most = if (infS bs most).e = 0 then ((infS bs most).out, ((infS bs most).p + 7) / 8, 0) else ([], 0, (infS bs most).e)) := (show _ = _ from if_neg hmost)
    rw [HP.out]
    obtain ⟨S, hS⟩ : ∃ S, infS bs most = S := ⟨_, rfl⟩
    rw [hS]
    obtain ⟨T, hT⟩ : ∃ T, (if S.e = 0 then (S.out, (S.p + 7) / 8, 0) else (([] : List UInt8), 0, S.e)) = T := ⟨_, rfl⟩
    rw [hT]
    have HT := Lib.hid hT
    have HC : Hid (infF bs most (8 * n + 1) (8 * n + 1) ⟨0, [], 0⟩ = S) := (show _ = _ by rw [← hS, ← hlb]; rfl)
    have HN := Lib.hid (newReader_any B n c A bs w h (by omega))
    have t1 : decide (most < 0) = false := decide_eq_false (by omega)
    have t2 : decide (most > 40000) = false := decide_eq_false (by omega)
    have t3 : ¬ most < 0 := by omega
    have t4 : ¬ 40000 < most := by omega
    clear h hS hn1 hn2 HP hmost hT
    go_enter Try.func9, Try.ntmps9
    go_wp2_with (go_at_call 25; (with_reducible refine HN.out.mono ?_); go_must (rintro e w1 ⟨g, A1, c1, rfl, hg, hgw, ha1, hr1, hb1⟩; have HFR : Hid (FS (w1.alloc (.cells #[.pointer (some ⟨g, 0, none⟩), .slice none 0 0, .int .i64 most, .int .i64 0] 55)) w1.heap.size g A1 n c1 bs most (.slice none 0 0) ⟨0, [], 0⟩) := (show FR _ _ _ _ _ _ _ _ _ _ _ _ from ⟨Arr.new w1 [.pointer (some ⟨g, 0, none⟩), .slice none 0 0, .int .i64 most, .int .i64 0] 55, ha1.alloc _, Rd.alloc hr1 (Nat.le_of_lt hgw) _, ownB.nil_ _ _, hgw, Nat.zero_le _, hn⟩); have HB1 := Lib.hid (hb1.alloc hb1.size (.cells #[.pointer (some ⟨g, 0, none⟩), .slice none 0 0, .int .i64 most, .int .i64 0] 55)); have hz1 := hb1.size; clear ha1 hr1 hb1))
    obtain ⟨r, hr⟩ : ∃ r, w1.heap.size = r := ⟨_, rfl⟩
    rw [hr] at HFR
    simp only [hr]
    have hgr : g < r := by omega
    have hwr : w.heap.size ≤ r := by omega
    have hr := Lib.hid hr
    clear hz1 hgw
    go_wp2_with fail
    have HB2 := Lib.hid (HB1.out)
    obtain ⟨w2, hw2⟩ : ∃ w2, w1.alloc (.cells #[.pointer (some ⟨g, 0, none⟩), .slice none 0 0, .int .i64 most, .int .i64 0] 55) = w2 := ⟨_, rfl⟩
    simp only [hw2]
    rw [hw2] at HB2 HFR
    clear hw2 HB1
    go_loopw [8] (fun vi wr => ∃ (last f : Nat) (vo : Value) (cur : RS), vi = .int .i64 last ∧ last ≤ 1 ∧ Hid (FS wr r g A1 n c1 bs most vo cur) ∧ Hid (Below w.heap.size w wr) ∧ Hid (if last = 0 then infF bs most (8 * n + 1) f cur = S else cur = S) ∧ Hid ((cur.out.length : Int) ≤ most) ∧ Hid (cur.e = 0 → 8 * n + 1 ≤ cur.p + f)) (fun vi wr => imeas n g r vi wr)
    case atStart => exact ⟨0, 8 * n + 1, .slice none 0 0, ⟨0, [], 0⟩, rfl, Nat.zero_le _, HFR, HB2, (show _ = _ from HC.out), (show (((0 : Nat) : Int)) ≤ most from h0), (show _ → _ from fun _ => Nat.le_add_left _ _)⟩
    case round =>
      clear HFR HB2 HC
      obtain ⟨last, f, vo, cur, rfl, hl, HFR, HB, HC, HO, HFU⟩ := hrel
      have c3 := (FR.arr HFR.out).cell (k := 3) rfl
      have herr := errOf_eq c3
      have hpm := posOf_eq (FR.rd HFR.out)
      by_cases hgo : last = 0 ∧ cur.e = 0
      · obtain ⟨rfl, he⟩ := hgo
        have d1 : (cur.e == 0) = true := by rw [he]; rfl
        obtain ⟨f, rfl⟩ : ∃ f', f = f' + 1 := ⟨f - 1, by have := HFU.out he; have := FR.fit HFR.out; omega⟩
        have HST : Hid ((if blk0 bs cur = 0 then infF bs most (8 * n + 1) f (blkP bs most (8 * n + 1) cur) else blkP bs most (8 * n + 1) cur) = S) := (show _ = _ by
          have h1 : infF bs most (8 * n + 1) (f + 1) cur = S := by have := HC.out; rwa [if_pos rfl] at this
          rw [← h1]
          exact (if_pos he).symm)
        have hfu := HFU.out he
        have hblk := blkP_p (bs := bs) (most := most) (f := 8 * n + 1) (s := cur)
        have hble : ((blkP bs most (8 * n + 1) cur).out.length : Int) ≤ most := kindP_le (by rw [blk2_out]; exact HO.out)
        have HBP : Hid (blkP bs most (8 * n + 1) cur = kindP bs most (8 * n + 1) (blk1 bs cur) (blk2 bs cur)) := (show _ = _ from rfl)
        have HKE : Hid (¬ blk1 bs cur = 0 → (blk2 bs cur).e = 0) := (show _ → _ from fun h => getP_v0 h)
        have hko : ((blk2 bs cur).out.length : Int) ≤ most := by rw [blk2_out]; exact HO.out
        have hv0 : blk0 bs cur < 2 := getP_lt bs cur (m := 1) (by omega)
        have hv1 : blk1 bs cur < 4 := getP_lt bs (getP bs cur 1).2 (m := 2) (by omega)
        have HG1 : Hid (Calls Try.prog 26 #[.pointer (some ⟨r, 0, none⟩), .int .i64 1] wr fun e w' => e = .returned (.int .i64 (blk0 bs cur : Int)) ∧ FS w' r g A1 n c1 bs most vo (getP bs cur 1).2 ∧ RFr wr w' r g vo vo) := (show Calls _ _ _ _ _ from rget_any r g n c1 A1 bs most vo cur wr 1 1 rfl HFR.out (by omega))
        have HG2 : Hid (∀ w3, FS w3 r g A1 n c1 bs most vo (getP bs cur 1).2 → Calls Try.prog 26 #[.pointer (some ⟨r, 0, none⟩), .int .i64 2] w3 fun e w' => e = .returned (.int .i64 (blk1 bs cur : Int)) ∧ FS w' r g A1 n c1 bs most vo (blk2 bs cur) ∧ RFr w3 w' r g vo vo) := (show ∀ w3, _ from fun w3 h => rget_any r g n c1 A1 bs most vo _ w3 2 2 rfl h (by omega))
        have hm0 : imeas n g r (.int .i64 ((0 : Nat) : Int)) wr = 8 * n + 1 - cur.p := by unfold imeas; rw [herr, hpm]; exact if_pos ⟨rfl, he⟩
        have HFN : Hid (cur.p ≤ 8 * n) := (show _ from FR.fit HFR.out)
        generalize blk2 bs cur = t2 at *
        generalize (getP bs cur 1).2 = t1 at *
        generalize blk1 bs cur = k at *
        generalize blk0 bs cur = last at *
        generalize blkP bs most (8 * n + 1) cur = nxt at *
        have hd9 : w.heap.size ≤ g := hg
        have HFIN : Hid (∀ w5 v5, FS w5 r g A1 n c1 bs most v5 nxt → imeas n g r (.int .i64 (last : Int)) w5 < 8 * n + 1 - cur.p) := (show ∀ w5 v5, _ from fun w5 v5 h5 => by
          have h1 := posOf_eq (FR.rd h5)
          have h2 := errOf_eq ((FR.arr h5).cell (k := 3) rfl)
          have h3 := HFN.out
          unfold imeas
          rw [h2, h1]
          split
          · rename_i hh
            have := hblk hh.2
            omega
          · omega)
        have HNX : Hid (if last = 0 then infF bs most (8 * n + 1) f nxt = S else nxt = S) := (show _ by
          have := HST.out
          by_cases h : last = 0
          · rw [if_pos h] at this ⊢; exact this
          · rw [if_neg h] at this ⊢; exact this)
        have HFU2 : Hid (nxt.e = 0 → 8 * n + 1 ≤ nxt.p + f) := (show _ → _ from fun h => by have := hblk h; omega)
        clear HST HC HFU hblk herr hpm
        rcases (show k = 0 ∨ k = 1 ∨ k = 2 ∨ k = 3 by omega) with rfl | rfl | rfl | rfl
        · have HK := Lib.hid (fun w4 (h : FS w4 r g A1 n c1 bs most vo t2) => rplain_any r g n c1 A1 bs most vo t2 w4 h (by omega))
          rw [show plainP bs most t2 = nxt from HBP.out.symm] at HK
          clear HBP HKE
          go_wp2_with (first
            | (go_at_call 26; (with_reducible refine HG1.out.mono ?_); go_must (rintro e w3 ⟨rfl, hf3, hr3⟩; have HB3 := Lib.hid (HB.out.trans (FR.fr HFR.out hr3 hd9)); have HG23 := Lib.hid (HG2.out _ hf3); have HF3 := Lib.hid hf3; clear hf3 hr3))
            | (go_at_call 26; (with_reducible refine HG23.out.mono ?_); go_must (rintro e w4 ⟨rfl, hf4, hr4⟩; have HB4 := Lib.hid (HB3.out.trans (FR.fr HF3.out hr4 hd9)); have HK4 := Lib.hid (HK.out _ hf4); have HF4 := Lib.hid hf4; clear hf4 hr4 HG23))
            | (go_at_call 27; (with_reducible refine HK4.out.mono ?_); go_must (rintro e w5 ⟨rfl, v5, hf5, hr5⟩; have HB5 := Lib.hid (HB4.out.trans (FR.fr HF4.out hr5 hd9)); have HF5 := Lib.hid hf5; clear hf5 hr5)))
          go_roundw
          case rel => exact ⟨last, f, v5, nxt, rfl, by omega, HF5, HB5, HNX, hble, HFU2⟩
          case measure => rw [hm0]; exact HFIN.out _ v5 HF5.out
        · have HK := Lib.hid (fun w4 (h : FS w4 r g A1 n c1 bs most vo t2) => rfixed_any r g n c1 A1 bs most vo t2 w4 (8 * n + 1) h (HKE.out (by omega)) (by omega) hko (Nat.le_refl _))
          rw [show rfixP bs most (8 * n + 1) t2 = nxt from HBP.out.symm] at HK
          clear HBP HKE
          go_wp2_with (first
            | (go_at_call 26; (with_reducible refine HG1.out.mono ?_); go_must (rintro e w3 ⟨rfl, hf3, hr3⟩; have HB3 := Lib.hid (HB.out.trans (FR.fr HFR.out hr3 hd9)); have HG23 := Lib.hid (HG2.out _ hf3); have HF3 := Lib.hid hf3; clear hf3 hr3))
            | (go_at_call 26; (with_reducible refine HG23.out.mono ?_); go_must (rintro e w4 ⟨rfl, hf4, hr4⟩; have HB4 := Lib.hid (HB3.out.trans (FR.fr HF3.out hr4 hd9)); have HK4 := Lib.hid (HK.out _ hf4); have HF4 := Lib.hid hf4; clear hf4 hr4 HG23))
            | (go_at_call 28; (with_reducible refine HK4.out.mono ?_); go_must (rintro e w5 ⟨rfl, v5, hf5, hr5⟩; have HB5 := Lib.hid (HB4.out.trans (FR.fr HF4.out hr5 hd9)); have HF5 := Lib.hid hf5; clear hf5 hr5)))
          go_roundw
          case rel => exact ⟨last, f, v5, nxt, rfl, by omega, HF5, HB5, HNX, hble, HFU2⟩
          case measure => rw [hm0]; exact HFIN.out _ v5 HF5.out
        · have HK := Lib.hid (fun w4 (h : FS w4 r g A1 n c1 bs most vo t2) => rown_any r g n c1 A1 bs most vo t2 w4 (8 * n + 1) h (by omega) hko (Nat.le_refl _))
          rw [show rownP bs most (8 * n + 1) t2 = nxt from HBP.out.symm] at HK
          clear HBP HKE
          go_wp2_with (first
            | (go_at_call 26; (with_reducible refine HG1.out.mono ?_); go_must (rintro e w3 ⟨rfl, hf3, hr3⟩; have HB3 := Lib.hid (HB.out.trans (FR.fr HFR.out hr3 hd9)); have HG23 := Lib.hid (HG2.out _ hf3); have HF3 := Lib.hid hf3; clear hf3 hr3))
            | (go_at_call 26; (with_reducible refine HG23.out.mono ?_); go_must (rintro e w4 ⟨rfl, hf4, hr4⟩; have HB4 := Lib.hid (HB3.out.trans (FR.fr HF3.out hr4 hd9)); have HK4 := Lib.hid (HK.out _ hf4); have HF4 := Lib.hid hf4; clear hf4 hr4 HG23))
            | (go_at_call 29; (with_reducible refine HK4.out.mono ?_); go_must (rintro e w5 ⟨rfl, v5, hf5, hr5⟩; have HB5 := Lib.hid (HB4.out.trans (FR.fr HF4.out hr5 hd9)); have HF5 := Lib.hid hf5; clear hf5 hr5)))
          go_roundw
          case rel => exact ⟨last, f, v5, nxt, rfl, by omega, HF5, HB5, HNX, hble, HFU2⟩
          case measure => rw [hm0]; exact HFIN.out _ v5 HF5.out
        · have HK := Lib.hid (fun w4 (h : FS w4 r g A1 n c1 bs most vo t2) => rfail_any r g n c1 A1 bs most vo t2 w4 4 h)
          rw [show t2.fail 4 = nxt from HBP.out.symm] at HK
          clear HBP HKE
          go_wp2_with (first
            | (go_at_call 26; (with_reducible refine HG1.out.mono ?_); go_must (rintro e w3 ⟨rfl, hf3, hr3⟩; have HB3 := Lib.hid (HB.out.trans (FR.fr HFR.out hr3 hd9)); have HG23 := Lib.hid (HG2.out _ hf3); have HF3 := Lib.hid hf3; clear hf3 hr3))
            | (go_at_call 26; (with_reducible refine HG23.out.mono ?_); go_must (rintro e w4 ⟨rfl, hf4, hr4⟩; have HB4 := Lib.hid (HB3.out.trans (FR.fr HF3.out hr4 hd9)); have HK4 := Lib.hid (HK.out _ hf4); have HF4 := Lib.hid hf4; clear hf4 hr4 HG23))
            | (go_at_call 30; (with_reducible refine HK4.out.mono ?_); go_must (rintro e w5 ⟨rfl, hf5, hr5⟩; have HB5 := Lib.hid (HB4.out.trans (FR.fr HF4.out hr5 hd9)); have HF5 := Lib.hid hf5; clear hf5 hr5)))
          go_roundw
          case rel => exact ⟨last, f, vo, nxt, rfl, by omega, HF5, HB5, HNX, hble, HFU2⟩
          case measure => rw [hm0]; exact HFIN.out _ vo HF5.out
      · have HSC : Hid (cur = S) := (show _ = _ by
          have h1 := HC.out
          by_cases hl0 : last = 0
          · rw [if_pos hl0] at h1
            rwa [infF_err (fun h => hgo ⟨hl0, h⟩)] at h1
          · rwa [if_neg hl0] at h1)
        rw [← HSC.out] at HT
        clear HSC HC
        by_cases he : cur.e = 0
        · obtain rfl : last = 1 := by
            have : ¬ last = 0 := fun h => hgo ⟨h, he⟩
            omega
          rw [if_pos he] at HT
          have d1 : (cur.e != 0) = false := by rw [he]; rfl
          obtain ⟨Av, cv, rfl, -, -, -⟩ := (FR.own HFR.out).form
          have c0 := (FR.arr HFR.out).cell (k := 0) rfl
          have c1' := (FR.arr HFR.out).cell (k := 1) rfl
          have cg := (FR.rd HFR.out).cell (k := 1) rfl
          have hPf : cur.p ≤ 8 * n := FR.fit HFR.out
          have e1 : IntKind.i64.wrap ((cur.p : Int) + 7) = (cur.p : Int) + 7 := (by have := wrap_i64_lt (cur.p + 7) (by omega); simpa using this)
          have e2 : ((cur.p : Int) + 7).tdiv 8 = (((cur.p + 7) / 8 : Nat) : Int) := by rw [show (cur.p : Int) + 7 = ((cur.p + 7 : Nat) : Int) by omega]; rfl
          have e3 : ((cur.p : Int) + 7) / 8 = (((cur.p + 7) / 8 : Nat) : Int) := by omega
          obtain ⟨Q, hQ⟩ : ∃ Q, (cur.p + 7) / 8 = Q := ⟨_, rfl⟩
          rw [hQ] at e2 e3
          have e4 : IntKind.i64.wrap (Q : Int) = (Q : Int) := wrap_i64_lt Q (by omega)
          go_wp2_with fail
          go_quiet ((go_at_call 31; exact Calls.quiet_of_same ((at_any g cur.p _ (by exact cg)).mono fun _ _ h => ⟨h.1, h.2.symm⟩)))
          go_wp2_with fail
          go_ret3
          rw [← HT.out]
          exact ⟨_, by rw [hQ]; rfl, (FR.own (FR.drewN HFR.out _)).mono (by omega), bdrewN HB.out _⟩
        · rw [if_neg he] at HT
          have d1 : (cur.e != 0) = true := by rw [bne_iff_ne]; exact he
          have d2 : (cur.e == 0) = false := beq_eq_false_iff_ne.2 he
          rcases (show last = 0 ∨ last = 1 by omega) with rfl | rfl
          · go_wp2_with fail
            go_quiet (fail)
            go_wp2_with fail
            go_ret3
            rw [← HT.out]
            exact ⟨_, rfl, ownB.nil_ _ _, bdrewN HB.out _⟩
          · go_wp2_with fail
            go_quiet (fail)
            go_wp2_with fail
            go_ret3
            rw [← HT.out]
            exact ⟨_, rfl, ownB.nil_ _ _, bdrewN HB.out _⟩
end Go.Proofs.Ytfafijhmjnkjeaa
