/- Merged: Rd7, RdQ, Rd8, RdR. -/
import Derived.Test.YteoolehdomjkkaaMb23
import Derived.Test.YteoolehdomjkkaaMb08
import Derived.Test.YteoolehdomjkkaaMb22
import Derived.Test.YteoolehdomjkkaaMb19
/- flate: the reader of blocks, whatever comes: a decoder made. -/
namespace Go.Proofs.Yteoolehdomjkkaa
set_option linter.all false
open Go.RowKit

def cPos (ls : List Int) : Nat := ls.countP fun x => decide (0 < x)
def cOne (ls : List Int) : Nat := ls.countP fun x => decide (x = 1)
theorem cPos_snoc (l : List Int) (x : Int) : cPos (l ++ [x]) = cPos l + if 0 < x then 1 else 0 := by unfold cPos; simp [List.countP_append, List.countP_cons]
theorem cOne_snoc (l : List Int) (x : Int) : cOne (l ++ [x]) = cOne l + if x = 1 then 1 else 0 := by unfold cOne; simp [List.countP_append, List.countP_cons]
/-- Are lengths no decoder's, not all of a code being used? -/
def decBad (ls : List Int) (alone : Bool) : Prop := krV ls < 32768 ∧ ¬ (alone = true ∧ cPos ls = 1 ∧ cOne ls = 1)
instance (ls : List Int) (alone : Bool) : Decidable (decBad ls alone) := by unfold decBad; infer_instance
def decP (ls : List Int) (alone : Bool) (s : RS) : RS := if s.e = 0 then (if nwE ls = 0 then (if decBad ls alone then s.fail 4 else s) else s.fail 4) else s
def decD (ls : List Int) (s : RS) : Option (List Int) := if s.e = 0 ∧ nwE ls = 0 then some ls else none
theorem nwE_ok {ls : List Int} (h : nwE ls = 0) : OkL ls := by
  unfold nwE at h
  split at h
  · rename_i h2
    exact cdE_zero h2
  · rename_i h2
    exact absurd h h2
theorem FR.later {w w' : World} {r g : Nat} {A : Option Addr} {n c P : Nat} {bs : List UInt8} {vo : Value} {out : List UInt8} {most e : Int} (h : FR w r g A n c P bs vo out most e) (hb : Below w.heap.size w w') : FR w' r g A n c P bs vo out most e :=
  ⟨h.arr.later hb, h.rd.later hb, h.rb.blw (hb.mono (Nat.le_of_lt h.rd.lt)), ownB.later h.own hb, h.gr, h.fit, h.big⟩
section
variable (r g n c : Nat) (A : Option Addr) (bs : List UInt8) (most : Int) (vo : Value) (s : RS) (w : World)
set_option maxRecDepth 100000 in
set_option maxHeartbeats 3200000 in
theorem rdecoder_any (B nl cl : Nat) (Al : Option Addr) (ls : List Int) (alone : Bool) (h : FS w r g A n c bs most vo s) (hr : RdI w B Al nl ls) (hB : B ≤ w.heap.size) (hn : nl ≤ 1000) :
    Calls Try.prog 60 #[.pointer (some ⟨r, 0, none⟩), .slice Al nl cl, .bool alone] w fun e w' => ∃ dv, e = .returned dv ∧ FS w' r g A n c bs most vo (decP ls alone s) ∧ RFr w w' r g vo vo ∧ DV w' r g vo dv (decD ls s) := by
  have H := Lib.hid h
  have c3 := (FR.arr h).cell (k := 3) rfl
  by_cases he : s.e = 0
  · have d1 : (s.e == 0) = true := by rw [he]; rfl
    have d1b : (s.e != 0) = false := by rw [he]; rfl
    have hrw := (FR.arr h).lt
    have hgw := (FR.rd h).lt
    have HVO : Hid (∀ k, vo.ownBlock = some k → k < w.heap.size) := (show ∀ k, _ from fun k hk => (World.ownsRow.lt (FR.own h) k hk).2)
    have HN := Lib.hid (new_gen B nl cl Al ls w hr hB (by omega))
    have HL := Lib.hid hr.len
    have HRD := Lib.hid hr
    have HFA : Hid (∀ w1, Below w.heap.size w w1 → FS w1 r g A n c bs most vo s) := (show ∀ w1, _ from fun w1 hb => FR.later h hb)
    have HFL := Lib.hid (fun w' (h : FS w' r g A n c bs most vo s) => rfail_any r g n c A bs most vo s w' 4 h)
    unfold NewG at HN
    by_cases hE : nwE ls = 0
    · have hD : decD ls s = some ls := if_pos ⟨he, hE⟩
      have hP : decP ls alone s = if decBad ls alone then s.fail 4 else s := by unfold decP; rw [if_pos he, if_pos hE]
      have HOK := Lib.hid (nwE_ok hE)
      rw [hD, hP]
      rw [hE] at HN
      have HKR := Lib.hid (fun w1 (h : RdI w1 B Al nl ls) => kraft_any B nl cl Al ls w1 h (by omega))
      have hDB : decBad ls alone = (krV ls < 32768 ∧ ¬ (alone = true ∧ cPos ls = 1 ∧ cOne ls = 1)) := rfl
      generalize krE ls = KE at *
      clear h hr hD hP
      go_enter Try.func60, Try.ntmps60
      go_wp2_with (first
        | (go_at_call 92; (with_reducible refine HN.out.mono ?_); go_must (rintro e w1 ⟨v1, rfl, hv1, -, hb1⟩; obtain ⟨gd, rfl, hdg⟩ := hv1 rfl; have hs1 := hb1.size; have HF1 := Lib.hid (HFA.out w1 hb1); have HR1 := Lib.hid (RFr.ofB hb1 r g vo); have HK1 := Lib.hid (DK.new (vo := vo) hdg hrw hgw HVO.out); have HRD1 := Lib.hid (RdI.blw HRD.out (hb1.mono hB)); have HKR1 := Lib.hid (HKR.out w1 HRD1.out); clear hv1 hb1 hdg))
        | (go_at_call 93; (with_reducible refine HKR1.out.mono ?_); go_must (rintro e w2 ⟨rfl, rfl⟩)))
      go_loopw [36, 11, 12] (fun vk vp vq wr => ∃ k : Nat, k ≤ nl ∧ vk = .int .i64 k ∧ vp = .int .i64 (cPos (ls.take k) : Int) ∧ vq = .int .i64 (cOne (ls.take k) : Int) ∧ wr = w1) (fun vk _ _ _ => nl - (intOf vk).toNat)
      case atStart => exact ⟨0, Nat.zero_le _, rfl, rfl, rfl, rfl⟩
      case round =>
        obtain ⟨k, hk, rfl, rfl, rfl, rfl⟩ := hrel
        by_cases hlt : k < nl
        · have hlti : (k : Int) < (nl : Int) := by omega
          obtain ⟨b, o, x, rfl, hb, HX, e1⟩ := HRD1.out.one hlt
          have HP1 : Hid (cPos (ls.take (k + 1)) = cPos (ls.take k) + if 0 < x then 1 else 0) := (show _ = _ by rw [take_snoc1 HX.out, cPos_snoc])
          have HO1 : Hid (cOne (ls.take (k + 1)) = cOne (ls.take k) + if x = 1 then 1 else 0) := (show _ = _ by rw [take_snoc1 HX.out, cOne_snoc])
          have hpl : cPos (ls.take k) ≤ 1000 := Nat.le_trans List.countP_le_length (by rw [List.length_take]; omega)
          have hol : cOne (ls.take k) ≤ 1000 := Nat.le_trans List.countP_le_length (by rw [List.length_take]; omega)
          generalize cPos (ls.take k) = cp at *
          generalize cOne (ls.take k) = co at *
          by_cases hx0 : 0 < x
          · rw [if_pos hx0] at HP1
            by_cases hx1 : x = 1
            · rw [if_pos hx1] at HO1
              have t1 : (x == 1) = true := by rw [hx1]; rfl
              go_wp2_with fail
              go_roundw
              case rel => exact ⟨k + 1, by omega, by go_num, by (rw [HP1.out]) <;> (first | done | rfl | go_num), by (rw [HO1.out]) <;> (first | done | rfl | go_num), trivial⟩
              case measure => simp [intOf]; omega
            · rw [if_neg hx1] at HO1
              have t1 : (x == 1) = false := beq_eq_false_iff_ne.2 hx1
              go_wp2_with fail
              go_roundw
              case rel => exact ⟨k + 1, by omega, by go_num, by (rw [HP1.out]) <;> (first | done | rfl | go_num), by (rw [HO1.out]) <;> (first | done | rfl | go_num), trivial⟩
              case measure => simp [intOf]; omega
          · rw [if_neg hx0] at HP1
            have hx1 : ¬ x = 1 := by omega
            rw [if_neg hx1] at HO1
            have t1 : (x == 1) = false := beq_eq_false_iff_ne.2 hx1
            go_wp2_with fail
            go_roundw
            case rel => exact ⟨k + 1, by omega, by go_num, by (rw [HP1.out]) <;> (first | done | rfl | go_num), by (rw [HO1.out]) <;> (first | done | rfl | go_num), trivial⟩
            case measure => simp [intOf]; omega
        · obtain rfl : k = nl := by omega
          have hlti : ¬ (k : Int) < (k : Int) := by omega
          have hta : ls.take k = ls := List.take_of_length_le (by rw [HL.out]; exact Nat.le_refl _)
          rw [hta]
          have HFL1 := Lib.hid (HFL.out wr HF1.out)
          have hpl : cPos ls ≤ 1000 := Nat.le_trans List.countP_le_length (by rw [HL.out]; omega)
          have hol : cOne ls ≤ 1000 := Nat.le_trans List.countP_le_length (by rw [HL.out]; omega)
          clear hta HFA HFL
          by_cases hk1 : krV ls < 32768
          · cases alone with
            | false =>
              have hbad : decBad ls false := ⟨hk1, fun h => by cases h.1⟩
              generalize krV ls = K at *
              generalize cPos ls = P at *
              generalize cOne ls = O at *
              go_wp2_with (go_at_call 30; (with_reducible refine HFL1.out.mono ?_); go_must (rintro e w4 ⟨rfl, hf4, hr4⟩; have HF4 := Lib.hid hf4; have HR4 := Lib.hid (HR1.out.trans hr4); have HK4 := Lib.hid (HK1.out.fr hr4); clear hf4 hr4))
              go_ret
              exact ⟨_, rfl, by first | exact HF4.out | (rw [if_pos hbad]; exact HF4.out), HR4.out, .inr ⟨gd, ls, rfl, rfl, HK4.out, HOK.out⟩⟩
            | true =>
              by_cases hp1 : cPos ls = 1
              · by_cases ho1 : cOne ls = 1
                · have hbad : ¬ decBad ls true := fun h => h.2 ⟨rfl, hp1, ho1⟩
                  have t1 : ((cPos ls : Int) == 1) = true := by rw [hp1]; rfl
                  have t2 : ((cOne ls : Int) == 1) = true := by rw [ho1]; rfl
                  generalize krV ls = K at *
                  generalize cPos ls = P at *
                  generalize cOne ls = O at *
                  go_wp2_with fail
                  go_ret
                  exact ⟨_, rfl, by first | exact HF1.out | (rw [if_neg hbad]; exact HF1.out), HR1.out, .inr ⟨gd, ls, rfl, rfl, HK1.out, HOK.out⟩⟩
                · have hbad : decBad ls true := ⟨hk1, fun h => ho1 h.2.2⟩
                  have t1 : ((cPos ls : Int) == 1) = true := by rw [hp1]; rfl
                  have t2 : ((cOne ls : Int) == 1) = false := beq_eq_false_iff_ne.2 (by omega)
                  generalize krV ls = K at *
                  generalize cPos ls = P at *
                  generalize cOne ls = O at *
                  go_wp2_with (go_at_call 30; (with_reducible refine HFL1.out.mono ?_); go_must (rintro e w4 ⟨rfl, hf4, hr4⟩; have HF4 := Lib.hid hf4; have HR4 := Lib.hid (HR1.out.trans hr4); have HK4 := Lib.hid (HK1.out.fr hr4); clear hf4 hr4))
                  go_ret
                  exact ⟨_, rfl, by first | exact HF4.out | (rw [if_pos hbad]; exact HF4.out), HR4.out, .inr ⟨gd, ls, rfl, rfl, HK4.out, HOK.out⟩⟩
              · have hbad : decBad ls true := ⟨hk1, fun h => hp1 h.2.1⟩
                have t1 : ((cPos ls : Int) == 1) = false := beq_eq_false_iff_ne.2 (by omega)
                generalize krV ls = K at *
                generalize cPos ls = P at *
                generalize cOne ls = O at *
                go_wp2_with (go_at_call 30; (with_reducible refine HFL1.out.mono ?_); go_must (rintro e w4 ⟨rfl, hf4, hr4⟩; have HF4 := Lib.hid hf4; have HR4 := Lib.hid (HR1.out.trans hr4); have HK4 := Lib.hid (HK1.out.fr hr4); clear hf4 hr4))
                go_ret
                exact ⟨_, rfl, by first | exact HF4.out | (rw [if_pos hbad]; exact HF4.out), HR4.out, .inr ⟨gd, ls, rfl, rfl, HK4.out, HOK.out⟩⟩
          · have hbad : ¬ decBad ls alone := fun h => hk1 h.1
            generalize krV ls = K at *
            generalize cPos ls = P at *
            generalize cOne ls = O at *
            go_wp2_with fail
            go_ret
            exact ⟨_, rfl, by first | exact HF1.out | (rw [if_neg hbad]; exact HF1.out), HR1.out, .inr ⟨gd, ls, rfl, rfl, HK1.out, HOK.out⟩⟩
    · have hD : decD ls s = none := if_neg (fun h => hE h.2)
      have hP : decP ls alone s = s.fail 4 := by unfold decP; rw [if_pos he, if_neg hE]
      rw [hD, hP]
      have dE : (nwE ls != 0) = true := by rw [bne_iff_ne]; exact hE
      have dE2 : (nwE ls == 0) = false := beq_eq_false_iff_ne.2 hE
      generalize nwE ls = E at *
      clear h hr hD hP
      go_enter Try.func60, Try.ntmps60
      go_wp2_with (first
        | (go_at_call 92; (with_reducible refine HN.out.mono ?_); go_must (rintro e w1 ⟨v1, rfl, -, hv1, hb1⟩; have hv2 := hv1 hE; subst hv2; have HR1 := Lib.hid (RFr.ofB hb1 r g vo); have HFL1 := Lib.hid (HFL.out w1 (HFA.out w1 hb1)); clear hv1 hb1))
        | (go_at_call 30; (with_reducible refine HFL1.out.mono ?_); go_must (rintro e w4 ⟨rfl, hf4, hr4⟩; have HF4 := Lib.hid hf4; have HR4 := Lib.hid (HR1.out.trans hr4); clear hf4 hr4)))
      go_ret
      exact ⟨_, rfl, HF4.out, HR4.out, .inl ⟨rfl, rfl⟩⟩
  · have d1 : (s.e == 0) = false := beq_eq_false_iff_ne.2 he
    have d1b : (s.e != 0) = true := by rw [bne_iff_ne]; exact he
    have hD : decD ls s = none := if_neg (fun h => he h.1)
    have hP : decP ls alone s = s := if_neg he
    rw [hD, hP]
    clear h hr
    go_enter Try.func60, Try.ntmps60
    go_wp2_with fail
    go_ret
    exact ⟨_, rfl, H.out, RFr.refl _ _ _ _, .inl ⟨rfl, rfl⟩⟩
end
end Go.Proofs.Yteoolehdomjkkaa

/- flate: what a reader of blocks does with lists of lengths, plainly. -/
namespace Go.Proofs.Yteoolehdomjkkaa
set_option linter.all false

/-- A length laid behind others, so often. -/
def rep0 (l : List Int) (n all : Nat) (s : RS) : RS := if s.e = 0 ∧ (all : Int) - (l.length : Int) < (n : Int) then s.fail 4 else s
def repP (l : List Int) (x : Int) (n all : Nat) (s : RS) : List Int × RS := if (rep0 l n all s).e = 0 then (l ++ List.replicate n x, rep0 l n all s) else (l, rep0 l n all s)
/-- So many lengths. -/
def listF (bs : List UInt8) (ls : List Int) (all : Nat) : Nat → List Int → RS → List Int × RS
  | 0, l, s => (l, s)
  | f + 1, l, s =>
    if l.length < all ∧ s.e = 0 then
      if (nextP bs ls s).2.e = 0 then
        if (nextP bs ls s).1 < 16 then listF bs ls all f (l ++ [(nextP bs ls s).1]) (nextP bs ls s).2
        else if (nextP bs ls s).1 = 16 then
          (if l.length = 0 then (l, (nextP bs ls s).2.fail 4)
          else listF bs ls all f (repP l (l.getD (l.length - 1) 0) (3 + (getP bs (nextP bs ls s).2 2).1) all (getP bs (nextP bs ls s).2 2).2).1 (repP l (l.getD (l.length - 1) 0) (3 + (getP bs (nextP bs ls s).2 2).1) all (getP bs (nextP bs ls s).2 2).2).2)
        else if (nextP bs ls s).1 = 17 then listF bs ls all f (repP l 0 (3 + (getP bs (nextP bs ls s).2 3).1) all (getP bs (nextP bs ls s).2 3).2).1 (repP l 0 (3 + (getP bs (nextP bs ls s).2 3).1) all (getP bs (nextP bs ls s).2 3).2).2
        else listF bs ls all f (repP l 0 (11 + (getP bs (nextP bs ls s).2 7).1) all (getP bs (nextP bs ls s).2 7).2).1 (repP l 0 (11 + (getP bs (nextP bs ls s).2 7).1) all (getP bs (nextP bs ls s).2 7).2).2
      else (l, (nextP bs ls s).2)
    else (l, s)
theorem listF_stop {bs : List UInt8} {ls : List Int} {all f : Nat} {l : List Int} {s : RS} (h : ¬ (l.length < all ∧ s.e = 0)) : listF bs ls all f l s = (l, s) := by
  cases f with
  | zero => rfl
  | succ f => exact if_neg h
theorem repP_len (l : List Int) (x : Int) (n all : Nat) (s : RS) (h : l.length ≤ all) : (repP l x n all s).1.length ≤ all ∧ ((repP l x n all s).2.e = 0 → (repP l x n all s).1.length = l.length + n) := by
  unfold repP
  split
  · rename_i h0
    have hn : ¬ (all : Int) - (l.length : Int) < (n : Int) := fun hh => by
      unfold rep0 at h0
      by_cases he : s.e = 0
      · rw [if_pos ⟨he, hh⟩] at h0
        unfold RS.fail at h0
        rw [if_pos he] at h0
        exact absurd (show (4 : Int) = 0 from h0) (by decide)
      · rw [if_neg (fun a => he a.1)] at h0
        exact he h0
    have e1 : (l ++ List.replicate n x).length = l.length + n := by simp
    exact ⟨by show (l ++ List.replicate n x).length ≤ all; omega, fun _ => e1⟩
  · rename_i h0
    exact ⟨h, fun h => absurd h h0⟩
end Go.Proofs.Yteoolehdomjkkaa

/- flate: the reader of blocks, whatever comes: a length laid behind others. -/
namespace Go.Proofs.Yteoolehdomjkkaa
set_option linter.all false
open Go.RowKit

/-- A list of lengths grows beside a reader. -/
theorem RFr.side {w0 w w' : World} {r g : Nat} {vo lv : Value} {l : List Int} (h : RFr w0 w r g vo vo) (hl : ∀ k, lv.ownBlock = some k → w0.heap.size ≤ k) (hg : w.grownBy w' lv.ownBlock) : RFr w0 w' r g vo vo := by
  have hs := h.size
  refine ⟨hg.os.trans h.os, hg.tape.trans h.tape, hg.output.trans h.output, Nat.le_trans hs hg.size, fun k hk h1 h2 h3 => ?_, .inl rfl⟩
  refine (hg.block k (by omega) (fun e => ?_)).trans (h.block k hk h1 h2 h3)
  have := hl k e.symm
  omega
theorem RFr.allocd {w0 w : World} {r g : Nat} {vo : Value} (h : RFr w0 w r g vo vo) (o : Obj) : RFr w0 (w.alloc o) r g vo vo := by
  have hs := h.size
  refine ⟨h.os, h.tape, h.output, by rw [World.size_alloc]; omega, fun k hk h1 h2 h3 => (heap_alloc_old w o (by omega)).trans (h.block k hk h1 h2 h3), .inl rfl⟩
theorem FR.side {w w' : World} {r g : Nat} {A : Option Addr} {n c P : Nat} {bs : List UInt8} {vo lv : Value} {out : List UInt8} {most e : Int} {lo : Nat} (h : FR w r g A n c P bs vo out most e) (hr : r < lo) (hv : ∀ k, vo.ownBlock = some k → k < lo) (hl : ∀ k, lv.ownBlock = some k → lo ≤ k) (hg : w.grownBy w' lv.ownBlock) : FR w' r g A n c P bs vo out most e := by
  have hgr := h.gr
  have key : ∀ k, k < w.heap.size → k < lo → w'.heap[k]? = w.heap[k]? := fun k hk hlo => hg.block k hk (fun e => by have := hl k e.symm; omega)
  refine ⟨?_, ?_, h.rb.blw ((Below.refl g w).grown hg (Nat.le_of_lt h.rd.lt) (fun k hk => by have := hl k hk; omega)), World.ownsRow.kept h.own hg ?_, hgr, h.fit, h.big⟩
  · have hlt := h.arr.lt
    obtain ⟨t, ht⟩ := h.arr
    exact ⟨t, (key r hlt hr).trans ht⟩
  · have hlt := h.rd.lt
    obtain ⟨t, ht⟩ := h.rd
    exact ⟨t, (key g hlt (by omega)).trans ht⟩
  · cases e : vo.ownBlock with
    | none => exact .inl rfl
    | some k => exact .inr (fun e2 => by have h1 := hv k e; have h2 := hl k e2.symm; omega)
theorem rep_snoc (l : List Int) (x : Int) (i : Nat) : l ++ List.replicate i x ++ [x] = l ++ List.replicate (i + 1) x := by
  rw [List.append_assoc, List.replicate_succ']
section
variable (r g n c : Nat) (A : Option Addr) (bs : List UInt8) (most : Int) (vo : Value) (s : RS) (w0 w : World)
set_option maxRecDepth 100000 in
set_option maxHeartbeats 3200000 in
theorem rrepeat_any (lv : Value) (l : List Int) (x : Int) (N all : Nat) (h : FS w r g A n c bs most vo s) (hf : RFr w0 w r g vo vo) (hl : ownI w w0.heap.size lv l) (hr : r < w0.heap.size) (hv : ∀ k, vo.ownBlock = some k → k < w0.heap.size) (hN : N ≤ 1000) (hall : all ≤ 1000) (hll : l.length ≤ 1000) :
    Calls Try.prog 94 #[.pointer (some ⟨r, 0, none⟩), lv, .int .i64 x, .int .i64 (N : Int), .int .i64 (all : Int)] w fun e w' => ∃ lv', e = .returned lv' ∧ FS w' r g A n c bs most vo (repP l x N all s).2 ∧ ownI w' w0.heap.size lv' (repP l x N all s).1 ∧ RFr w0 w' r g vo vo := by
  obtain ⟨Al, cl, rfl, -, -, -⟩ := hl.form
  have H := Lib.hid h
  have HF0 := Lib.hid hf
  have HL := Lib.hid hl
  have HV := Lib.hid hv
  have c3 := (FR.arr h).cell (k := 3) rfl
  have HFL := Lib.hid (rfail_any r g n c A bs most vo s w 4 h)
  obtain ⟨s1, hs1⟩ : ∃ s1, rep0 l N all s = s1 := ⟨_, rfl⟩
  have HRP : Hid (repP l x N all s = if s1.e = 0 then (l ++ List.replicate N x, s1) else (l, s1)) := (show _ = _ by unfold repP; rw [hs1])
  replace hs1 : (if s.e = 0 ∧ (all : Int) - (l.length : Int) < (N : Int) then s.fail 4 else s) = s1 := hs1
  have HL0 : Hid (l ++ List.replicate 0 x = l) := (show _ = _ by simp)
  have hls : ∀ k w', RFr w0 w' r g vo vo → (Value.slice Al l.length cl).ownBlock = some k → w0.heap.size ≤ k := fun k w' _ hk => (World.ownsRow.lt hl k hk).1
  clear h hf hl hv hls
  go_enter Try.func94, Try.ntmps94
  by_cases he : s.e = 0
  · have d1 : (s.e == 0) = true := by rw [he]; rfl
    by_cases hlt : (all : Int) - (l.length : Int) < (N : Int)
    · rw [if_pos ⟨he, hlt⟩] at hs1
      rw [hs1] at HFL
      clear hs1
      have hfl := World.ownsRow.lt HL.out
      go_wp2_with (go_at_call 30; (with_reducible refine HFL.out.mono ?_); go_must (rintro e w4 ⟨rfl, hf4, hr4⟩; have HF4 := Lib.hid hf4; have HL4 : Hid (ownI w4 w0.heap.size (.slice Al l.length cl) l) := (show ownI _ _ _ _ from ownI.rfr HL.out hr4 hr (by have := (FR.gr H.out); omega) (fun k hk hk2 => by have h1 := HV.out k hk; have h2 := (World.ownsRow.lt HL.out k hk2).1; omega)); have HR4 := Lib.hid (HF0.out.trans hr4); clear hf4 hr4))
      go_loopw [11, 1] (fun vi vl wr => ∃ i : Nat, i ≤ N ∧ vi = .int .i64 i ∧ Hid (FS wr r g A n c bs most vo s1) ∧ Hid (RFr w0 wr r g vo vo) ∧ Hid (ownI wr w0.heap.size vl (l ++ List.replicate i x)) ∧ (¬ s1.e = 0 → i = 0)) (fun vi _ _ => N - (intOf vi).toNat)
      case atStart => exact ⟨0, Nat.zero_le _, rfl, HF4, HR4, (show ownI _ _ _ _ by rw [HL0.out]; exact HL4.out), fun _ => rfl⟩
      case round =>
        obtain ⟨i, hi, rfl, HF, HR, HL, h0⟩ := hrel
        have e3 := (FR.arr HF.out).cell (k := 3) rfl
        obtain ⟨Aq, cq, rfl, -, -, -⟩ := HL.out.form
        have hlen : (l ++ List.replicate i x).length ≤ 2000 := by rw [List.length_append, List.length_replicate]; omega
        by_cases hlt : i < N
        · have hlti : (i : Int) < (N : Int) := by omega
          by_cases he : s1.e = 0
          · have d9 : (s1.e == 0) = true := by rw [he]; rfl
            have HSN := Lib.hid (rep_snoc l x i)
            have HLO : Hid (∀ k, (Value.slice Aq (l ++ List.replicate i x).length cq).ownBlock = some k → w0.heap.size ≤ k) := (show ∀ k, _ from fun k hk => (World.ownsRow.lt HL.out k hk).1)
            generalize l ++ List.replicate i x = ll at *
            have HLA := Lib.hid (ownI.alloc HL.out (.cells #[Value.int .i64 x] 3))
            have HFA := Lib.hid (FR.later HF.out ((Below.refl wr.heap.size wr).alloc (Nat.le_refl _) (.cells #[Value.int .i64 x] 3)))
            have HRA := Lib.hid (HR.out.allocd (.cells #[Value.int .i64 x] 3))
            have hq1 : ll.length + 1 ≤ 1099511627776 := by omega
            have hq2 : w0.heap.size ≤ (wr.alloc (.cells #[Value.int .i64 x] 3)).heap.size := HRA.out.size
            go_wp2_with (at_builtin; go_must (refine wpList_appendI rfl (.tmp 39) (.tmp 41) rfl w0.heap.size _ ll rfl HLA.out (wr.heap.size + 1) 1 1 (some ⟨wr.heap.size, 0, none⟩) [x] rfl (rd_oneI wr x) hq1 hq2 ?_; intro v5 w5 ho5 hg5 hb5 ha5; rw [HSN.out] at ho5; have HL5 := Lib.hid ho5; have HF5 := Lib.hid (FR.side HFA.out hr HV.out HLO.out hg5); have HR5 := Lib.hid (RFr.side (l := ll) HRA.out HLO.out hg5); clear ho5 hg5 hb5 ha5))
            go_roundw
            case rel => exact ⟨i + 1, by omega, by go_num, HF5, HR5, HL5, fun h => absurd he h⟩
            case measure => simp [intOf]; omega
          · have d9 : (s1.e == 0) = false := beq_eq_false_iff_ne.2 he
            have hi0 := h0 he
            subst hi0
            go_wp2_with fail
            go_ret
            exact ⟨_, rfl, by rw [HRP.out, if_neg he]; exact HF.out, by rw [HRP.out, if_neg he]; rw [HL0.out] at HL; exact HL.out, HR.out⟩
        · obtain rfl : i = N := by omega
          have hlti : ¬ (i : Int) < (i : Int) := by omega
          by_cases he : s1.e = 0
          · go_wp2_with fail
            go_ret
            exact ⟨_, rfl, by rw [HRP.out, if_pos he]; exact HF.out, by rw [HRP.out, if_pos he]; have hh := HL.out; first | exact hh | (rw [show (l ++ List.replicate i x).length = l.length + i by simp] at hh; exact hh), HR.out⟩
          · have hi0 := h0 he
            subst hi0
            go_wp2_with fail
            go_ret
            exact ⟨_, rfl, by rw [HRP.out, if_neg he]; exact HF.out, by rw [HRP.out, if_neg he]; rw [HL0.out] at HL; exact HL.out, HR.out⟩
    · rw [if_neg (fun h => hlt h.2)] at hs1
      rw [hs1] at H
      clear hs1
      go_wp2_with fail
      go_loopw [11, 1] (fun vi vl wr => ∃ i : Nat, i ≤ N ∧ vi = .int .i64 i ∧ Hid (FS wr r g A n c bs most vo s1) ∧ Hid (RFr w0 wr r g vo vo) ∧ Hid (ownI wr w0.heap.size vl (l ++ List.replicate i x)) ∧ (¬ s1.e = 0 → i = 0)) (fun vi _ _ => N - (intOf vi).toNat)
      case atStart => exact ⟨0, Nat.zero_le _, rfl, H, HF0, (show ownI _ _ _ _ by rw [HL0.out]; exact HL.out), fun _ => rfl⟩
      case round =>
        obtain ⟨i, hi, rfl, HF, HR, HL, h0⟩ := hrel
        have e3 := (FR.arr HF.out).cell (k := 3) rfl
        obtain ⟨Aq, cq, rfl, -, -, -⟩ := HL.out.form
        have hlen : (l ++ List.replicate i x).length ≤ 2000 := by rw [List.length_append, List.length_replicate]; omega
        by_cases hlt : i < N
        · have hlti : (i : Int) < (N : Int) := by omega
          by_cases he : s1.e = 0
          · have d9 : (s1.e == 0) = true := by rw [he]; rfl
            have HSN := Lib.hid (rep_snoc l x i)
            have HLO : Hid (∀ k, (Value.slice Aq (l ++ List.replicate i x).length cq).ownBlock = some k → w0.heap.size ≤ k) := (show ∀ k, _ from fun k hk => (World.ownsRow.lt HL.out k hk).1)
            generalize l ++ List.replicate i x = ll at *
            have HLA := Lib.hid (ownI.alloc HL.out (.cells #[Value.int .i64 x] 3))
            have HFA := Lib.hid (FR.later HF.out ((Below.refl wr.heap.size wr).alloc (Nat.le_refl _) (.cells #[Value.int .i64 x] 3)))
            have HRA := Lib.hid (HR.out.allocd (.cells #[Value.int .i64 x] 3))
            have hq1 : ll.length + 1 ≤ 1099511627776 := by omega
            have hq2 : w0.heap.size ≤ (wr.alloc (.cells #[Value.int .i64 x] 3)).heap.size := HRA.out.size
            go_wp2_with (at_builtin; go_must (refine wpList_appendI rfl (.tmp 39) (.tmp 41) rfl w0.heap.size _ ll rfl HLA.out (wr.heap.size + 1) 1 1 (some ⟨wr.heap.size, 0, none⟩) [x] rfl (rd_oneI wr x) hq1 hq2 ?_; intro v5 w5 ho5 hg5 hb5 ha5; rw [HSN.out] at ho5; have HL5 := Lib.hid ho5; have HF5 := Lib.hid (FR.side HFA.out hr HV.out HLO.out hg5); have HR5 := Lib.hid (RFr.side (l := ll) HRA.out HLO.out hg5); clear ho5 hg5 hb5 ha5))
            go_roundw
            case rel => exact ⟨i + 1, by omega, by go_num, HF5, HR5, HL5, fun h => absurd he h⟩
            case measure => simp [intOf]; omega
          · have d9 : (s1.e == 0) = false := beq_eq_false_iff_ne.2 he
            have hi0 := h0 he
            subst hi0
            go_wp2_with fail
            go_ret
            exact ⟨_, rfl, by rw [HRP.out, if_neg he]; exact HF.out, by rw [HRP.out, if_neg he]; rw [HL0.out] at HL; exact HL.out, HR.out⟩
        · obtain rfl : i = N := by omega
          have hlti : ¬ (i : Int) < (i : Int) := by omega
          by_cases he : s1.e = 0
          · go_wp2_with fail
            go_ret
            exact ⟨_, rfl, by rw [HRP.out, if_pos he]; exact HF.out, by rw [HRP.out, if_pos he]; have hh := HL.out; first | exact hh | (rw [show (l ++ List.replicate i x).length = l.length + i by simp] at hh; exact hh), HR.out⟩
          · have hi0 := h0 he
            subst hi0
            go_wp2_with fail
            go_ret
            exact ⟨_, rfl, by rw [HRP.out, if_neg he]; exact HF.out, by rw [HRP.out, if_neg he]; rw [HL0.out] at HL; exact HL.out, HR.out⟩
  · have d1 : (s.e == 0) = false := beq_eq_false_iff_ne.2 he
    rw [if_neg (fun h => he h.1)] at hs1
    rw [hs1] at H
    clear hs1
    go_wp2_with fail
    go_loopw [11, 1] (fun vi vl wr => ∃ i : Nat, i ≤ N ∧ vi = .int .i64 i ∧ Hid (FS wr r g A n c bs most vo s1) ∧ Hid (RFr w0 wr r g vo vo) ∧ Hid (ownI wr w0.heap.size vl (l ++ List.replicate i x)) ∧ (¬ s1.e = 0 → i = 0)) (fun vi _ _ => N - (intOf vi).toNat)
    case atStart => exact ⟨0, Nat.zero_le _, rfl, H, HF0, (show ownI _ _ _ _ by rw [HL0.out]; exact HL.out), fun _ => rfl⟩
    case round =>
      obtain ⟨i, hi, rfl, HF, HR, HL, h0⟩ := hrel
      have e3 := (FR.arr HF.out).cell (k := 3) rfl
      obtain ⟨Aq, cq, rfl, -, -, -⟩ := HL.out.form
      have hlen : (l ++ List.replicate i x).length ≤ 2000 := by rw [List.length_append, List.length_replicate]; omega
      by_cases hlt : i < N
      · have hlti : (i : Int) < (N : Int) := by omega
        by_cases he : s1.e = 0
        · have d9 : (s1.e == 0) = true := by rw [he]; rfl
          have HSN := Lib.hid (rep_snoc l x i)
          have HLO : Hid (∀ k, (Value.slice Aq (l ++ List.replicate i x).length cq).ownBlock = some k → w0.heap.size ≤ k) := (show ∀ k, _ from fun k hk => (World.ownsRow.lt HL.out k hk).1)
          generalize l ++ List.replicate i x = ll at *
          have HLA := Lib.hid (ownI.alloc HL.out (.cells #[Value.int .i64 x] 3))
          have HFA := Lib.hid (FR.later HF.out ((Below.refl wr.heap.size wr).alloc (Nat.le_refl _) (.cells #[Value.int .i64 x] 3)))
          have HRA := Lib.hid (HR.out.allocd (.cells #[Value.int .i64 x] 3))
          have hq1 : ll.length + 1 ≤ 1099511627776 := by omega
          have hq2 : w0.heap.size ≤ (wr.alloc (.cells #[Value.int .i64 x] 3)).heap.size := HRA.out.size
          go_wp2_with (at_builtin; go_must (refine wpList_appendI rfl (.tmp 39) (.tmp 41) rfl w0.heap.size _ ll rfl HLA.out (wr.heap.size + 1) 1 1 (some ⟨wr.heap.size, 0, none⟩) [x] rfl (rd_oneI wr x) hq1 hq2 ?_; intro v5 w5 ho5 hg5 hb5 ha5; rw [HSN.out] at ho5; have HL5 := Lib.hid ho5; have HF5 := Lib.hid (FR.side HFA.out hr HV.out HLO.out hg5); have HR5 := Lib.hid (RFr.side (l := ll) HRA.out HLO.out hg5); clear ho5 hg5 hb5 ha5))
          go_roundw
          case rel => exact ⟨i + 1, by omega, by go_num, HF5, HR5, HL5, fun h => absurd he h⟩
          case measure => simp [intOf]; omega
        · have d9 : (s1.e == 0) = false := beq_eq_false_iff_ne.2 he
          have hi0 := h0 he
          subst hi0
          go_wp2_with fail
          go_ret
          exact ⟨_, rfl, by rw [HRP.out, if_neg he]; exact HF.out, by rw [HRP.out, if_neg he]; rw [HL0.out] at HL; exact HL.out, HR.out⟩
      · obtain rfl : i = N := by omega
        have hlti : ¬ (i : Int) < (i : Int) := by omega
        by_cases he : s1.e = 0
        · go_wp2_with fail
          go_ret
          exact ⟨_, rfl, by rw [HRP.out, if_pos he]; exact HF.out, by rw [HRP.out, if_pos he]; have hh := HL.out; first | exact hh | (rw [show (l ++ List.replicate i x).length = l.length + i by simp] at hh; exact hh), HR.out⟩
        · have hi0 := h0 he
          subst hi0
          go_wp2_with fail
          go_ret
          exact ⟨_, rfl, by rw [HRP.out, if_neg he]; exact HF.out, by rw [HRP.out, if_neg he]; rw [HL0.out] at HL; exact HL.out, HR.out⟩
end
end Go.Proofs.Yteoolehdomjkkaa

/- flate: what a reader of blocks does, plainly: a block of its own codes, the fixed codes, all blocks. -/
namespace Go.Proofs.Yteoolehdomjkkaa
set_option linter.all false

def hdN (bs : List UInt8) (s : RS) : Nat := 257 + (getP bs s 5).1
def hdA (bs : List UInt8) (s : RS) : RS := if 286 < hdN bs s then (getP bs s 5).2.fail 4 else (getP bs s 5).2
def hdM (bs : List UInt8) (s : RS) : Nat := 1 + (getP bs (hdA bs s) 5).1
def hdB (bs : List UInt8) (s : RS) : RS := if 30 < hdM bs s then (getP bs (hdA bs s) 5).2.fail 4 else (getP bs (hdA bs s) 5).2
def hdQ (bs : List UInt8) (s : RS) : Nat := 4 + (getP bs (hdB bs s) 4).1
def lenRd (bs : List UInt8) : List Nat → List Int → RS → List Int × RS
  | [], l, s => (l, s)
  | k :: ks, l, s => lenRd bs ks (l.set k ((getP bs s 3).1 : Int)) (getP bs s 3).2
def hdL (bs : List UInt8) (s : RS) : List Int × RS := lenRd bs (ordL.take (hdQ bs s)) (List.replicate 19 0) (getP bs (hdB bs s) 4).2
/-- A list read by a decoder, or by none. -/
def listD (bs : List UInt8) (D : Option (List Int)) (all : Nat) (s : RS) : List Int × RS := match D with
  | some ls => listF bs ls all (all + 1) [] s
  | none => ([], s)
def ownLs (bs : List UInt8) (s : RS) : List Int × RS := listD bs (decD (hdL bs s).1 (hdL bs s).2) (hdN bs s + hdM bs s) (decP (hdL bs s).1 false (hdL bs s).2)
def noneP (ls : List Int) : Bool := cPos ls == 0
def own1 (all : List Int) (s : RS) : RS := if all.getD 256 0 = 0 then s.fail 4 else s
def own2 (all : List Int) (n : Nat) (s : RS) : RS := decP (all.take n) false (own1 all s)
def ownDD (all : List Int) (n : Nat) (s : RS) : Option (List Int) := if noneP (all.drop n) = true then none else decD (all.drop n) (own2 all n s)
def own3 (all : List Int) (n : Nat) (s : RS) : RS := if noneP (all.drop n) = true then own2 all n s else decP (all.drop n) true (own2 all n s)
def ownT (bs : List UInt8) (most : Int) (all : List Int) (n f : Nat) (s : RS) : RS :=
  if s.e = 0 then (if (own3 all n s).e = 0 then toksF bs most (all.take n) (ownDD all n s) f (own3 all n s) else own3 all n s) else s
/-- A block of its own codes. -/
def rownP (bs : List UInt8) (most : Int) (f : Nat) (s : RS) : RS := ownT bs most (ownLs bs s).1 (hdN bs s) f (ownLs bs s).2
/-- A block of the fixed codes. -/
def rfixP (bs : List UInt8) (most : Int) (f : Nat) (s : RS) : RS := toksF bs most fixL (some fixD) f s
theorem decP_out (ls : List Int) (a : Bool) (s : RS) : (decP ls a s).out = s.out := by
  unfold decP
  split
  · split
    · split
      · exact fail_out s 4
      · rfl
    · exact fail_out s 4
  · rfl
theorem decP_p (ls : List Int) (a : Bool) (s : RS) : (decP ls a s).p = s.p := by
  unfold decP
  split
  · split
    · split
      · exact fail_p s 4
      · rfl
    · exact fail_p s 4
  · rfl
theorem fail_e {s : RS} {e : Int} (he : ¬ e = 0) : ¬ (s.fail e).e = 0 := by
  unfold RS.fail
  split
  · exact he
  · assumption
theorem decD_none {ls : List Int} {a : Bool} {s : RS} (h : decD ls s = none) : ¬ (decP ls a s).e = 0 := by
  unfold decD at h
  unfold decP
  split at h
  · cases h
  · rename_i h2
    split
    · rename_i he
      rw [if_neg (fun hn => h2 ⟨he, hn⟩)]
      exact fail_e (by decide)
    · assumption
theorem decP_zero {ls : List Int} {a : Bool} {s : RS} (h : (decP ls a s).e = 0) : s.e = 0 ∧ decP ls a s = s ∧ decD ls s = some ls := by
  unfold decP at h ⊢
  unfold decD
  by_cases he : s.e = 0
  · rw [if_pos he] at h ⊢
    by_cases hn : nwE ls = 0
    · rw [if_pos hn] at h ⊢
      by_cases hb : decBad ls a
      · rw [if_pos hb] at h
        exact absurd h (fail_e (by decide))
      · rw [if_neg hb]
        exact ⟨he, rfl, if_pos ⟨he, hn⟩⟩
    · rw [if_neg hn] at h
      exact absurd h (fail_e (by decide))
  · rw [if_neg he] at h
    exact absurd h he
theorem own1_zero {all : List Int} {s : RS} (h : (own1 all s).e = 0) : s.e = 0 ∧ own1 all s = s := by
  unfold own1 at h ⊢
  split at h
  · exact absurd h (fail_e (by decide))
  · rename_i h2
    rw [if_neg h2]
    exact ⟨h, rfl⟩
theorem own3_zero {all : List Int} {n : Nat} {s : RS} (h : (own3 all n s).e = 0) : own3 all n s = s ∧ decD (all.take n) (own1 all s) = some (all.take n) := by
  have key : (own2 all n s).e = 0 ∧ own3 all n s = own2 all n s := by
    unfold own3 at h ⊢
    split at h
    · rename_i h2; rw [if_pos h2]; exact ⟨h, rfl⟩
    · rename_i h2; rw [if_neg h2]; obtain ⟨h1, h3, -⟩ := decP_zero h; exact ⟨h1, h3⟩
  rw [key.2]
  obtain ⟨h1, h2, h3⟩ := decP_zero key.1
  refine ⟨?_, h3⟩
  unfold own2
  rw [h2]
  exact (own1_zero h1).2
theorem lenRd_len (bs : List UInt8) : ∀ (ks : List Nat) (l : List Int) (s : RS), (lenRd bs ks l s).1.length = l.length
  | [], l, s => rfl
  | k :: ks, l, s => by rw [lenRd, lenRd_len bs ks, List.length_set]
theorem lenRd_out (bs : List UInt8) : ∀ (ks : List Nat) (l : List Int) (s : RS), (lenRd bs ks l s).2.out = s.out
  | [], l, s => rfl
  | k :: ks, l, s => by rw [lenRd, lenRd_out bs ks, getP_out]
theorem repP_out (l : List Int) (x : Int) (n all : Nat) (s : RS) : (repP l x n all s).2.out = s.out := by
  have : (rep0 l n all s).out = s.out := by
    unfold rep0
    split
    · exact fail_out s 4
    · rfl
  unfold repP
  split <;> exact this
theorem listF_out (bs : List UInt8) (ls : List Int) (all : Nat) : ∀ (f : Nat) (l : List Int) (s : RS), (listF bs ls all f l s).2.out = s.out
  | 0, l, s => rfl
  | f + 1, l, s => by
    rw [listF]
    split
    · split
      · split
        · rw [listF_out bs ls all f, nextP_out]
        · split
          · split
            · show (RS.fail _ 4).out = _
              rw [fail_out, nextP_out]
            · rw [listF_out bs ls all f, repP_out, getP_out, nextP_out]
          · split
            · rw [listF_out bs ls all f, repP_out, getP_out, nextP_out]
            · rw [listF_out bs ls all f, repP_out, getP_out, nextP_out]
      · exact nextP_out bs ls s
    · rfl
theorem listD_out (bs : List UInt8) (D : Option (List Int)) (all : Nat) (s : RS) : (listD bs D all s).2.out = s.out := by
  cases D with
  | none => rfl
  | some ls => exact listF_out bs ls all _ _ s
theorem hdA_out (bs : List UInt8) (s : RS) : (hdA bs s).out = s.out := by
  unfold hdA
  split
  · rw [fail_out, getP_out]
  · rw [getP_out]
theorem hdB_out (bs : List UInt8) (s : RS) : (hdB bs s).out = s.out := by
  unfold hdB
  split
  · rw [fail_out, getP_out, hdA_out]
  · rw [getP_out, hdA_out]
theorem ownLs_out (bs : List UInt8) (s : RS) : (ownLs bs s).2.out = s.out := by
  unfold ownLs hdL
  rw [listD_out, decP_out, lenRd_out, getP_out, hdB_out]
/-- A list read without an error is whole. -/
theorem listF_full (bs : List UInt8) (ls : List Int) (all : Nat) : ∀ (f : Nat) (l : List Int) (s : RS), l.length ≤ all → all + 1 ≤ l.length + f → (listF bs ls all f l s).2.e = 0 → (listF bs ls all f l s).1.length = all
  | 0, l, s, hl, hf, h => by omega
  | f + 1, l, s, hl, hf, h => by
    rw [listF] at h ⊢
    by_cases h1 : l.length < all ∧ s.e = 0
    · rw [if_pos h1] at h ⊢
      by_cases h2 : (nextP bs ls s).2.e = 0
      · rw [if_pos h2] at h ⊢
        have rp : ∀ (x : Int) (k : Nat) (t : RS), 3 ≤ k → (listF bs ls all f (repP l x k all t).1 (repP l x k all t).2).2.e = 0 → (listF bs ls all f (repP l x k all t).1 (repP l x k all t).2).1.length = all := fun x k t hk h => by
          have h4 := repP_len l x k all t hl
          by_cases he : (repP l x k all t).2.e = 0
          · exact listF_full bs ls all f _ _ h4.1 (by rw [h4.2 he]; omega) h
          · rw [listF_stop (fun hh => he hh.2)] at h
            exact absurd h he
        by_cases h3 : (nextP bs ls s).1 < 16
        · rw [if_pos h3] at h ⊢
          exact listF_full bs ls all f _ _ (by simp; omega) (by simp; omega) h
        · rw [if_neg h3] at h ⊢
          by_cases h4 : (nextP bs ls s).1 = 16
          · rw [if_pos h4] at h ⊢
            by_cases h5 : l.length = 0
            · rw [if_pos h5] at h
              exact absurd h (fail_e (by decide))
            · rw [if_neg h5] at h ⊢
              exact rp _ _ _ (by omega) h
          · rw [if_neg h4] at h ⊢
            by_cases h5 : (nextP bs ls s).1 = 17
            · rw [if_pos h5] at h ⊢
              exact rp _ _ _ (by omega) h
            · rw [if_neg h5] at h ⊢
              exact rp _ _ _ (by omega) h
      · rw [if_neg h2] at h
        exact absurd h h2
    · rw [if_neg h1] at h ⊢
      have h' : s.e = 0 := h
      show l.length = all
      have : ¬ l.length < all := fun hh => h1 ⟨hh, h'⟩
      omega
theorem ownLs_full (bs : List UInt8) (s : RS) (h : (ownLs bs s).2.e = 0) : (ownLs bs s).1.length = hdN bs s + hdM bs s := by
  unfold ownLs at h ⊢
  cases hD : decD (hdL bs s).1 (hdL bs s).2 with
  | none =>
    rw [hD] at h
    exact absurd h (decD_none hD)
  | some ls =>
    rw [hD] at h
    exact listF_full bs ls _ _ [] _ (Nat.zero_le _) (by simp) h
end Go.Proofs.Yteoolehdomjkkaa
