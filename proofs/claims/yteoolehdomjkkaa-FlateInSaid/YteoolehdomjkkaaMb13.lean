/- Merged: Write2, Ints, First5, Code5. -/
import Derived.Test.YteoolehdomjkkaaMb12
import Derived.Test.YteoolehdomjkkaaMb01
import Derived.Test.YteoolehdomjkkaaMb09
import Derived.Test.YteoolehdomjkkaaMb07
import Derived.Test.YteoolehdomjkkaaMb10
/- Writers of bits: a code put. -/
namespace Go.Proofs.Yteoolehdomjkkaa
set_option linter.all false
open Go.RowKit

/-- A writer that holds bits. -/
def Wr (w : World) (g : Nat) (pv : Value) (bs : List UInt8) (L : List Nat) : Prop := Arr w g [pv, .int .i64 ((L.length : Nat) : Int)] ∧ ownB w (g + 1) pv bs ∧ WB bs L
theorem wrongBits_any (v m : Nat) (w : World) (hm : m ≤ 24) (hv : v < 2 ^ m) : Calls Try.prog 112 #[.int .u32 (v : Int), .int .i64 (m : Int)] w fun e w' => e = .returned (.bool false) ∧ w = w' := by
  have e1 : decide ((m : Int) < 0) = false := decide_eq_false (by omega)
  have e2 : decide ((m : Int) > 24) = false := decide_eq_false (by omega)
  have e3 : (v : Int) / 2 ^ m = 0 := by
    rw [show ((2 : Int) ^ m) = ((2 ^ m : Nat) : Int) by push_cast; rfl, ← Int.natCast_ediv, Nat.div_eq_of_lt hv]
    rfl
  clear hv
  go_enter Try.func112, Try.ntmps112
  go_wp2_with fail
  go_ret
  exact ⟨rfl, rfl⟩
theorem newWriter_any (w : World) : Calls Try.prog 78 #[] w fun e w' => e = .returned (.pointer (some ⟨w.heap.size, 0, none⟩)) ∧ Wr w' w.heap.size (.slice none 0 0) [] [] ∧ Below w.heap.size w w' ∧ w.heap.size < w'.heap.size := by
  go_enter Try.func78, Try.ntmps78
  go_wp2_with fail
  go_ret
  exact ⟨rfl, ⟨Arr.new w [.slice none 0 0, .int .i64 0] _, ownB.nil_ _ _, WB.nil⟩, (Below.refl _ _).alloc (Nat.le_refl _) _, by simp⟩

set_option maxRecDepth 100000 in
set_option maxHeartbeats 3200000 in
theorem code_any (g v m : Nat) (pv : Value) (bs : List UInt8) (L : List Nat) (w : World) (h : Wr w g pv bs L) (hb : L.length + m ≤ 1000000) (hm : m ≤ 24) (hv : v < 2 ^ m) :
    Calls Try.prog 100 #[.pointer (some ⟨g, 0, none⟩), .int .u32 (v : Int), .int .i64 (m : Int)] w fun e w' => e = .returned (.int .i64 0) ∧ ∃ pv' bs', Wr w' g pv' bs' (L ++ msb v m m) ∧ WrFr w w' g pv pv' := by
  have HWG := Lib.hid (fun w => wrongBits_any v m w hm hv)
  have HW := Lib.hid h
  have hv24 : v < 16777216 := Nat.lt_of_lt_of_le hv (Nat.pow_le_pow_right (by decide) hm)
  have HM : Hid (L ++ msb v m 0 = L) := (show _ = _ by simp [msb])
  clear h hv
  go_enter Try.func100, Try.ntmps100
  go_wp2_with (go_at_call 112; (with_reducible refine (HWG.out _).mono ?_); go_must (rintro e w1 ⟨rfl, rfl⟩))
  go_loopw [12] (fun vi wr => ∃ k : Nat, k ≤ m ∧ vi = .int .i64 k ∧ ∃ pq bq, Hid (Wr wr g pq bq (L ++ msb v m k)) ∧ Hid (WrFr w wr g pv pq)) (fun vi _ => m - (intOf vi).toNat)
  case atStart => exact ⟨0, Nat.zero_le _, rfl, pv, bs, (show Wr _ _ _ _ _ by rw [HM.out]; exact HW.out), WrFr.refl _ _ _⟩
  case round =>
    clear HW HM
    obtain ⟨k, hk, rfl, pq, bq, HW, HF⟩ := hrel
    by_cases hlt : k < m
    · obtain ⟨d, hd⟩ : ∃ d, m - 1 - k = d := ⟨_, rfl⟩
      have hdI : (m : Int) - 1 - (k : Int) = (d : Int) := by omega
      have hlen : (L ++ msb v m k).length = L.length + k := by rw [List.length_append, msb_len]
      have hdv : v / 2 ^ d < 4294967296 := Nat.lt_of_le_of_lt (Nat.div_le_self _ _) (by omega)
      have HC := Lib.hid (one_any g (L ++ msb v m k).length (v / 2 ^ d) pq bq _ wr HW.out.1 HW.out.2.1 HW.out.2.2 rfl (by omega) hdv)
      have HST : Hid (L ++ msb v m k ++ [v / 2 ^ d % 2] = L ++ msb v m (k + 1)) := (show _ = _ by rw [msb, hd, List.append_assoc])
      have HLN : Hid ((((L ++ msb v m k).length + 1 : Nat) : Int) = (((L ++ msb v m (k + 1)).length : Nat) : Int)) := (show _ = _ by rw [← HST.out]; congr 1; simp; omega)
      rw [HST.out, HLN.out] at HC
      have hdvI : (v : Int) / 2 ^ d = ((v / 2 ^ d : Nat) : Int) := by rw [show ((2 : Int) ^ d) = ((2 ^ d : Nat) : Int) by push_cast; rfl, ← Int.natCast_ediv]
      generalize v / 2 ^ d = u at *
      clear hlen hd HST HLN
      go_wp2_with (go_at_call 113; (with_reducible refine HC.out.mono ?_); go_must (rintro e w5 ⟨rfl, pv5, bs5, hA5, hO5, hW5, hF5⟩; have HF5 := Lib.hid (HF.out.trans hF5); have HW5 : Hid (Wr w5 g pv5 bs5 (L ++ msb v m (k + 1))) := ⟨hA5, hO5, hW5⟩; clear hA5 hO5 hW5 hF5))
      go_roundw
      case rel => exact ⟨k + 1, by omega, by go_num, pv5, bs5, HW5, HF5⟩
      case measure => simp [intOf]; omega
    · obtain rfl : k = m := by omega
      go_wp2_with fail
      go_ret
      exact ⟨rfl, pq, bq, HW.out, HF.out⟩
end Go.Proofs.Yteoolehdomjkkaa

/- aquref: lists of numbers held against one another, copied. -/
namespace Go.Proofs.Yteoolehdomjkkaa
set_option linter.all false
open Go.RowKit

theorem take_eq_step {α : Type} {xs ys : List α} {k : Nat} {x : α} (h : xs.take k = ys.take k) (hx : xs[k]? = some x) (hy : ys[k]? = some x) : xs.take (k + 1) = ys.take (k + 1) := by
  obtain ⟨a1, a2⟩ := List.getElem?_eq_some_iff.1 hx
  obtain ⟨b1, b2⟩ := List.getElem?_eq_some_iff.1 hy
  rw [List.take_succ_eq_append_getElem a1, List.take_succ_eq_append_getElem b1, h, a2, b2]
theorem take_ne {α : Type} {xs ys : List α} {k : Nat} {x y : α} (hx : xs[k]? = some x) (hy : ys[k]? = some y) (h : ¬ x = y) : ¬ xs = ys := by
  intro e
  rw [e, hy] at hx
  injection hx with hx
  exact h hx.symm
theorem ret_boolE {a b : Bool} (h : a = b) : Ending.returned (.bool a) = .returned (.bool b) := by rw [h]
end Go.Proofs.Yteoolehdomjkkaa

/- huff: what the chapter's examples fix. -/
namespace Go.Proofs.Yteoolehdomjkkaa
set_option linter.all false
open Go.RowKit

/-- The merge, by a count that goes down: for the kernel to reckon with. -/
def mrgF {α : Type} (wt : α → Int) : Nat → List α → List α → List α
  | 0, a, b => a ++ b
  | _ + 1, [], b => b
  | _ + 1, a :: r, [] => a :: r
  | f + 1, a :: r, b :: s => if wt b < wt a then b :: mrgF wt f (a :: r) s else a :: mrgF wt f r (b :: s)
theorem mrgF_eq {α : Type} (wt : α → Int) : ∀ (f : Nat) (a b : List α), a.length + b.length ≤ f → mrgF wt f a b = mrgBy wt a b := by
  intro f
  induction f with
  | zero =>
    intro a b h
    have h1 : a = [] := List.eq_nil_of_length_eq_zero (by omega)
    have h2 : b = [] := List.eq_nil_of_length_eq_zero (by omega)
    subst h1 h2
    simp [mrgF, mrgBy]
  | succ f ih =>
    intro a b h
    cases a with
    | nil => simp [mrgF, mrgBy]
    | cons x r =>
      cases b with
      | nil => simp [mrgF, mrgBy]
      | cons y s =>
        simp only [List.length_cons] at h
        rw [mrgF, mrgBy]
        split
        · rw [ih (x :: r) s (by simp only [List.length_cons]; omega)]
        · rw [ih r (y :: s) (by simp only [List.length_cons]; omega)]
def pmF (first : List Mem) : Nat → List Mem
  | 0 => first
  | k + 1 => mrgF Mem.w (first.length + (packs (pmF first k)).length) first (packs (pmF first k))
theorem pmF_eq (first : List Mem) (k : Nat) : pmF first k = pmL first k := by
  induction k with
  | zero => rfl
  | succ k ih => rw [pmF, pmL, ih, mrgF_eq _ _ _ _ (Nat.le_refl _)]
def lensF (ws : List Int) (m : Nat) : List Int :=
  if (leaves ws).length = 1 then bumps (List.replicate ws.length 0) ((leaves ws).flatMap Mem.items)
  else bumps (List.replicate ws.length 0) (((pmF (stab Mem.w (leaves ws)) (m - 1)).take (2 * (leaves ws).length - 2)).flatMap Mem.items)
theorem lensF_eq (ws : List Int) (m : Nat) : lensF ws m = lensOf ws m := by unfold lensF lensOf; rw [pmF_eq]
theorem ex_len : lenR [1, 1, 2, 4] 15 = [3, 3, 2, 1] ∧ lenE [1, 1, 2, 4] 15 = 0 := by
  have h : wrongH [1, 1, 2, 4] 15 = false := by decide
  unfold lenR lenE
  rw [h]
  refine ⟨?_, rfl⟩
  show lensOf [1, 1, 2, 4] 15 = _
  rw [← lensF_eq]
  kernel_rfl
theorem ex_cod : cdL [2, 1, 0, 2] = [(2, 2), (0, 1), (0, 0), (3, 2)] ∧ cdE [2, 1, 0, 2] = 0 := by
  constructor <;> kernel_rfl

end Go.Proofs.Yteoolehdomjkkaa

/- The document's Codes. -/
namespace Go.Proofs.Yteoolehdomjkkaa
set_option linter.all false
open Go.RowKit

def pv (ls : List Int) (l : Nat) : Nat := fst ls (l - 1) + cz ls (l - 1)
theorem fst_pv (ls : List Int) {l : Nat} (h : 0 < l) : fst ls l = pv ls l * 2 := by
  cases l with
  | zero => omega
  | succ l => unfold pv; rw [fst]; simp; omega
theorem cnt_end {ls : List Int} {n : Nat} (h : ls.length = n) {l : Nat} (hl : 0 < l) : fst ls l + cnt (ls.take n) l = pv ls (l + 1) := by
  unfold pv
  rw [List.take_of_length_le (by omega), Nat.add_sub_cancel, cz_cnt ls hl]

set_option maxRecDepth 100000 in
set_option maxHeartbeats 3200000 in
theorem codes5_any (B n c : Nat) (A : Option Addr) (ls : List Int) (w : World) (h : RdI w B A n ls) (hB1 : B ≤ w.heap.size) (hn : n ≤ 1099511627776) :
    Calls Try.prog 96 #[.slice A n c] w fun e w' => ∃ A' n' c', e = .returned (.tuple #[.slice A' n' c', .int .i64 (cdE ls)]) ∧ n' = (cdL ls).length ∧ ownD w' w.heap.size (.slice A' n' c') (cdL ls) ∧ Below w.heap.size w w' := by
  have HK := Lib.hid (kraft5_any B n c A ls w h hn)
  have hl := h.len
  rcases krE_cases ls with he | he
  · obtain ⟨g1, g2, g3⟩ := krE_zero he
    rw [he, g3] at HK
    by_cases hbig : 32768 < krN ls
    · have HE : Hid (cdE ls = 4 ∧ cdL ls = []) := (show _ ∧ _ by
        have : cdE ls = 4 := by unfold cdE; rw [if_pos he, if_pos hbig]
        refine ⟨this, ?_⟩
        unfold cdL
        rw [if_neg (by rw [this]; decide)])
      generalize krN ls = K at *
      clear h hl he g1 g2 g3
      go_enter Try.func96, Try.ntmps96
      go_wp2_with (go_at_call 37; (with_reducible refine HK.out.mono ?_); go_must (rintro e w1 ⟨rfl, rfl⟩))
      go_ret2
      exact ⟨none, 0, 0, ret_tup2 rfl (by rw [HE.out.1]; rfl), by rw [HE.out.2]; rfl, by rw [HE.out.2]; exact ownD.nil_ _ _, Below.refl _ _⟩
    · have HE : Hid (cdE ls = 0 ∧ cdL ls = codesL ls) := (show _ ∧ _ by
        have : cdE ls = 0 := by unfold cdE; rw [if_pos he, if_neg hbig]
        refine ⟨this, ?_⟩
        unfold cdL
        rw [if_pos this])
      have H := Lib.hid h
      have HL := Lib.hid hl
      have hn3 : n ≤ 300 := by omega
      have HBAD := Lib.hid g2
      have HKN := Lib.hid (show krN ls ≤ 32768 by omega)
      generalize krN ls = K at HK hbig
      have hbig' : decide ((32768 : Int) < (K : Int)) = false := decide_eq_false (by omega)
      clear h hl he g1 g2 g3
      go_enter Try.func96, Try.ntmps96
      go_wp2_with (first
        | (go_at_call 37; (with_reducible refine HK.out.mono ?_); go_must (rintro e w1 ⟨rfl, rfl⟩))
        | (at_make; refine wpList_makeD rfl _ _ rfl n _ rfl rfl rfl (by omega) ?_; intro w3 hown hb3 hsz3; have HO := Lib.hid hown; have HB3 := Lib.hid hb3; clear hown hb3))
      go_loopw [8, 7] (fun vi vx wr => ∃ l : Nat, 1 ≤ l ∧ l ≤ 16 ∧ vi = .int .i64 l ∧ vx = .int .u32 (pv ls l : Nat) ∧ Hid (ownD wr w.heap.size (.slice (some ⟨w.heap.size, 0, none⟩) n n) (cod5 ls l 0)) ∧ Hid (Below w.heap.size w wr))
        (fun vi _ _ => 17 - (intOf vi).toNat)
      case atStart => exact ⟨1, by omega, by omega, rfl, rfl, (show ownD _ _ _ _ by rw [cod5_start, HL.out]; exact HO.out), HB3⟩
      case round =>
        clear HO HB3
        obtain ⟨l, hl1, hl2, rfl, rfl, HO, HB⟩ := hrel
        by_cases hlt : l ≤ 15
        · have hlI : (l : Int) ≤ 15 := by omega
          have HF := Lib.hid (fst_pv ls (show 0 < l by omega))
          have hfb := fst_small ls HBAD.out HKN.out l hlt
          have hpb : pv ls l ≤ 32768 := by have := HF.out; omega
          have HCE := Lib.hid (cnt_end HL.out (show 0 < l by omega))
          have HCZ := Lib.hid (cz_cnt ls (show 0 < l by omega))
          have HST : Hid (((pv ls l : Nat) : Int) * 2 = ((fst ls l + cnt (ls.take 0) l : Nat) : Int)) := (show _ = _ by rw [HF.out]; simp [cnt])
          have HFB := Lib.hid hfb
          clear hfb
          generalize pv ls l = v at *
          go_wp2
          go_loopw [9, 7] (fun vi vx wr => ∃ k : Nat, k ≤ n ∧ vi = .int .i64 k ∧ vx = .int .u32 ((fst ls l + cnt (ls.take k) l : Nat) : Int) ∧ Hid (ownD wr w.heap.size (.slice (some ⟨w.heap.size, 0, none⟩) n n) (cod5 ls l k)) ∧ Hid (Below w.heap.size w wr))
            (fun vi _ _ => n - (intOf vi).toNat)
          case atStart => exact ⟨0, by omega, rfl, by first | exact congrArg (Value.int .u32) HST.out | (rw [← HST.out]), HO, HB⟩
          case round =>
            clear HO HB HST
            obtain ⟨k, hk, rfl, rfl, HO, HB⟩ := hrel
            by_cases hlt2 : k < n
            · obtain ⟨b, o, x, rfl, hb, HX, e1⟩ := (H.out.blw (HB.out.mono hB1)).one hlt2
              have HCT := Lib.hid (cnt_take_step HX.out l)
              have hct := cnt_take ls k l
              have hfb := HFB.out
              have hcz := HCZ.out
              have hvb : fst ls l + cnt (ls.take k) l ≤ 32768 := by omega
              clear hct hfb hcz
              by_cases hxl : x = (l : Int)
              · subst hxl
                have hkl : k < ls.length := by rw [HL.out]; exact hlt2
                obtain ⟨o0, o1⟩ := HO.out.cell (by rw [cod5_len, HL.out]) (k := k) (by rw [cod5_len]; exact hkl)
                have of := HO.out.frozen (by rw [cod5_len, HL.out])
                have of0 := of (k * 2)
                have of1 := of (k * 2 + 1)
                have HST := Lib.hid (cod5_set HX.out (show 0 < l by omega))
                have HC2 : Hid (fst ls l + cnt (ls.take (k + 1)) l = fst ls l + cnt (ls.take k) l + 1) := (show _ = _ by rw [HCT.out, if_pos rfl]; omega)
                generalize fst ls l + cnt (ls.take k) l = V at *
                generalize (cod5 ls l k)[k]'(by rw [cod5_len]; exact hkl) = oc at *
                clear of HCT
                have HOR := Lib.hid (show ownD ((wr.setCell ⟨w.heap.size, k * 2, none⟩ (.int .u32 (V : Int))).setCell ⟨w.heap.size, k * 2 + 1, none⟩ (.int .i64 (l : Int))) w.heap.size (.slice (some ⟨w.heap.size, 0, none⟩) n n) (cod5 ls l (k + 1)) from by
                  rw [HST.out]
                  exact HO.out.store (by rw [cod5_len, HL.out]) k (V, (l : Int)) (by rw [cod5_len]; exact hkl))
                have HBR := Lib.hid ((HB.out.setCell (p := ⟨w.heap.size, k * 2, none⟩) (Nat.le_refl _) (.int .u32 (V : Int))).setCell (p := ⟨w.heap.size, k * 2 + 1, none⟩) (Nat.le_refl _) (.int .i64 (l : Int)))
                have dxl : ((l : Int) == (l : Int)) = true := by simp
                clear HO HB
                go_wp2
                go_roundw
                case rel => exact ⟨k + 1, by omega, by go_num, by rw [HC2.out]; go_num, HOR, HBR⟩
                case measure => simp [intOf]; omega
              · have HST := Lib.hid (cod5_same HX.out hxl)
                have HC2 : Hid (fst ls l + cnt (ls.take (k + 1)) l = fst ls l + cnt (ls.take k) l) := (show _ = _ by rw [HCT.out, if_neg hxl, Nat.add_zero])
                generalize fst ls l + cnt (ls.take k) l = V at *
                have dxl : (x == (l : Int)) = false := beq_eq_false_iff_ne.2 hxl
                clear HCT
                go_wp2
                go_roundw
                case rel => exact ⟨k + 1, by omega, by go_num, by rw [HC2.out], (show ownD _ _ _ _ by rw [HST.out]; exact HO.out), HB⟩
                case measure => simp [intOf]; omega
            · obtain rfl : k = n := by omega
              have HO2 : Hid (ownD wr w.heap.size (.slice (some ⟨w.heap.size, 0, none⟩) k k) (cod5 ls (l + 1) 0)) := (show ownD _ _ _ _ by
                have := HO.out
                have e := cod5_next ls l
                rw [HL.out] at e
                rwa [e] at this)
              rw [HCE.out]
              clear HO HCE
              go_wp2
              go_roundw
              case rel => exact ⟨l + 1, by omega, by omega, by go_num, rfl, HO2, HB⟩
              case measure => simp [intOf]; omega
        · obtain rfl : l = 16 := by omega
          have HO2 := HO.out
          rw [cod5_end ls HBAD.out] at HO2
          generalize pv ls 16 = v at *
          go_wp2
          go_ret2
          refine ⟨some ⟨w.heap.size, 0, none⟩, n, n, ret_tup2 rfl (by rw [HE.out.1]; rfl), ?_, ?_, HB.out⟩
          · rw [HE.out.2]; simp [codesL]; exact HL.out.symm
          · rw [HE.out.2]
            exact HO2
  · have HE : Hid (cdE ls = 1 ∧ cdL ls = []) := (show _ ∧ _ by
      have : cdE ls = 1 := by unfold cdE; rw [if_neg (by rw [he]; decide)]
      refine ⟨this, ?_⟩
      unfold cdL
      rw [if_neg (by rw [this]; decide)])
    rw [he] at HK
    generalize krV ls = K at HK
    clear h hl he
    go_enter Try.func96, Try.ntmps96
    go_wp2_with (go_at_call 37; (with_reducible refine HK.out.mono ?_); go_must (rintro e w1 ⟨rfl, rfl⟩))
    go_ret2
    exact ⟨none, 0, 0, ret_tup2 rfl (by rw [HE.out.1]; rfl), by rw [HE.out.2]; rfl, by rw [HE.out.2]; exact ownD.nil_ _ _, Below.refl _ _⟩
end Go.Proofs.Yteoolehdomjkkaa
