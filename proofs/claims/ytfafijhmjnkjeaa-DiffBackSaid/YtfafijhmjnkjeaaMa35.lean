/- Merged: Rd8, Rd9, RdR. -/
import Derived.Deep.RegionHeld3
import Derived.Test.YtfafijhmjnkjeaaMa34
import Derived.Test.YtfafijhmjnkjeaaMa23
/- flate: the reader of blocks, whatever comes: a length laid behind others. -/
namespace Go.Proofs.Ytfafijhmjnkjeaa
set_option linter.all false
open Go.RowKit

/-- A list of lengths grows beside a reader. -/
theorem RFr.side {w0 w w' : World} {r g : Nat} {vo lv : Value} {l : List Int} (h : RFr w0 w r g vo vo) (hl : ∀ k, lv.ownBlock = some k → w0.heap.size ≤ k) (hg : w.grownBy w' lv.ownBlock) : RFr w0 w' r g vo vo := by
  have hs := h.size
  refine ⟨hg.os.trans h.os, hg.tape.trans h.tape, hg.output.trans h.output, Nat.le_trans hs hg.size, fun k hk h1 h2 h3 => ?_, .inl rfl⟩
  refine (hg.block k (by omega) (fun e => ?_)).trans (h.block k hk h1 h2 h3)
  have := hl k e.symm
  omega
theorem RFr.allocd {w0 w : World} {r g : Nat} {vo : Value} (h : RFr w0 w r g vo vo) (o : Obj) : RFr w0 (w.alloc o) r g vo vo := by
  have hs := h.size
  refine ⟨h.os, h.tape, h.output, by rw [World.size_alloc]; omega, fun k hk h1 h2 h3 => (heap_alloc_old w o (by omega)).trans (h.block k hk h1 h2 h3), .inl rfl⟩
theorem FR.side {w w' : World} {r g : Nat} {A : Option Addr} {n c P : Nat} {bs : List UInt8} {vo lv : Value} {out : List UInt8} {most e : Int} {lo : Nat} (h : FR w r g A n c P bs vo out most e) (hr : r < lo) (hv : ∀ k, vo.ownBlock = some k → k < lo) (hl : ∀ k, lv.ownBlock = some k → lo ≤ k) (hg : w.grownBy w' lv.ownBlock) : FR w' r g A n c P bs vo out most e := by
  have hgr := h.gr
  have key : ∀ k, k < w.heap.size → k < lo → w'.heap[k]? = w.heap[k]? := fun k hk hlo => hg.block k hk (fun e => by have := hl k e.symm; omega)
  refine ⟨?_, ?_, h.rb.blw ((Below.refl g w).grown hg (Nat.le_of_lt h.rd.lt) (fun k hk => by have := hl k hk; omega)), World.ownsRow.kept h.own hg ?_, hgr, h.fit, h.big⟩
  · have hlt := h.arr.lt
    obtain ⟨t, ht⟩ := h.arr
    exact ⟨t, (key r hlt hr).trans ht⟩
  · have hlt := h.rd.lt
    obtain ⟨t, ht⟩ := h.rd
    exact ⟨t, (key g hlt (by omega)).trans ht⟩
  · cases e : vo.ownBlock with
    | none => exact .inl rfl
    | some k => exact .inr (fun e2 => by have h1 := hv k e; have h2 := hl k e2.symm; omega)
theorem rep_snoc (l : List Int) (x : Int) (i : Nat) : l ++ List.replicate i x ++ [x] = l ++ List.replicate (i + 1) x := by
  rw [List.append_assoc, List.replicate_succ']
section
variable (r g n c : Nat) (A : Option Addr) (bs : List UInt8) (most : Int) (vo : Value) (s : RS) (w0 w : World)
set_option maxRecDepth 100000 in
set_option maxHeartbeats 3200000 in
theorem rrepeat_any (lv : Value) (l : List Int) (x : Int) (N all : Nat) (h : FS w r g A n c bs most vo s) (hf : RFr w0 w r g vo vo) (hl : ownI w w0.heap.size lv l) (hr : r < w0.heap.size) (hv : ∀ k, vo.ownBlock = some k → k < w0.heap.size) (hN : N ≤ 1000) (hall : all ≤ 1000) (hll : l.length ≤ 1000) :
    Calls Try.prog 94 #[.pointer (some ⟨r, 0, none⟩), lv, .int .i64 x, .int .i64 (N : Int), .int .i64 (all : Int)] w fun e w' => ∃ lv', e = .returned lv' ∧ FS w' r g A n c bs most vo (repP l x N all s).2 ∧ ownI w' w0.heap.size lv' (repP l x N all s).1 ∧ RFr w0 w' r g vo vo := by
  obtain ⟨Al, cl, rfl, -, -, -⟩ := hl.form
  have H := Lib.hid h
  have HF0 := Lib.hid hf
  have HL := Lib.hid hl
  have HV := Lib.hid hv
  have c3 := (FR.arr h).cell (k := 3) rfl
  have HFL := Lib.hid (rfail_any r g n c A bs most vo s w 4 h)
  obtain ⟨s1, hs1⟩ : ∃ s1, rep0 l N all s = s1 := ⟨_, rfl⟩
  have HRP : Hid (repP l x N all s = if s1.e = 0 then (l ++ List.replicate N x, s1) else (l, s1)) := (show _ = _ by unfold repP; rw [hs1])
  replace hs1 : (if s.e = 0 ∧ (all : Int) - (l.length : Int) < (N : Int) then s.fail 4 else s) = s1 := hs1
  have HL0 : Hid (l ++ List.replicate 0 x = l) := (show _ = _ by simp)
  have hls : ∀ k w', RFr w0 w' r g vo vo → (Value.slice Al l.length cl).ownBlock = some k → w0.heap.size ≤ k := fun k w' _ hk => (World.ownsRow.lt hl k hk).1
  clear h hf hl hv hls
  go_enter Try.func94, Try.ntmps94
  by_cases he : s.e = 0
  · have d1 : (s.e == 0) = true := by rw [he]; rfl
    by_cases hlt : (all : Int) - (l.length : Int) < (N : Int)
    · rw [if_pos ⟨he, hlt⟩] at hs1
      rw [hs1] at HFL
      clear hs1
      have hfl := World.ownsRow.lt HL.out
      go_wp2_with (go_at_call 30; (with_reducible refine HFL.out.mono ?_); go_must (rintro e w4 ⟨rfl, hf4, hr4⟩; have HF4 := Lib.hid hf4; have HL4 : Hid (ownI w4 w0.heap.size (.slice Al l.length cl) l) := (show ownI _ _ _ _ from ownI.rfr HL.out hr4 hr (by have := (FR.gr H.out); omega) (fun k hk hk2 => by have h1 := HV.out k hk; have h2 := (World.ownsRow.lt HL.out k hk2).1; omega)); have HR4 := Lib.hid (HF0.out.trans hr4); clear hf4 hr4))
      go_loopw [11, 1] (fun vi vl wr => ∃ i : Nat, i ≤ N ∧ vi = .int .i64 i ∧ Hid (FS wr r g A n c bs most vo s1) ∧ Hid (RFr w0 wr r g vo vo) ∧ Hid (ownI wr w0.heap.size vl (l ++ List.replicate i x)) ∧ (¬ s1.e = 0 → i = 0)) (fun vi _ _ => N - (intOf vi).toNat)
      case atStart => exact ⟨0, Nat.zero_le _, rfl, HF4, HR4, (show ownI _ _ _ _ by rw [HL0.out]; exact HL4.out), fun _ => rfl⟩
      case round =>
        obtain ⟨i, hi, rfl, HF, HR, HL, h0⟩ := hrel
        have e3 := (FR.arr HF.out).cell (k := 3) rfl
        obtain ⟨Aq, cq, rfl, -, -, -⟩ := HL.out.form
        have hlen : (l ++ List.replicate i x).length ≤ 2000 := by rw [List.length_append, List.length_replicate]; omega
        by_cases hlt : i < N
        · have hlti : (i : Int) < (N : Int) := by omega
          by_cases he : s1.e = 0
          · have d9 : (s1.e == 0) = true := by rw [he]; rfl
            have HSN := Lib.hid (rep_snoc l x i)
            have HLO : Hid (∀ k, (Value.slice Aq (l ++ List.replicate i x).length cq).ownBlock = some k → w0.heap.size ≤ k) := (show ∀ k, _ from fun k hk => (World.ownsRow.lt HL.out k hk).1)
            generalize l ++ List.replicate i x = ll at *
            have HLA := Lib.hid (ownI.alloc HL.out (.cells #[Value.int .i64 x] 3))
            have HFA := Lib.hid (FR.later HF.out ((Below.refl wr.heap.size wr).alloc (Nat.le_refl _) (.cells #[Value.int .i64 x] 3)))
            have HRA := Lib.hid (HR.out.allocd (.cells #[Value.int .i64 x] 3))
            have hq1 : ll.length + 1 ≤ 1099511627776 := by omega
            have hq2 : w0.heap.size ≤ (wr.alloc (.cells #[Value.int .i64 x] 3)).heap.size := HRA.out.size
            go_wp2_with (at_builtin; go_must (refine wpList_appendI rfl (.tmp 39) (.tmp 41) rfl w0.heap.size _ ll rfl HLA.out (wr.heap.size + 1) 1 1 (some ⟨wr.heap.size, 0, none⟩) [x] rfl (rd_oneI wr x) hq1 hq2 ?_; intro v5 w5 ho5 hg5 hb5 ha5; rw [HSN.out] at ho5; have HL5 := Lib.hid ho5; have HF5 := Lib.hid (FR.side HFA.out hr HV.out HLO.out hg5); have HR5 := Lib.hid (RFr.side (l := ll) HRA.out HLO.out hg5); clear ho5 hg5 hb5 ha5))
            go_roundw
            case rel => exact ⟨i + 1, by omega, by go_num, HF5, HR5, HL5, fun h => absurd he h⟩
            case measure => simp [intOf]; omega
          · have d9 : (s1.e == 0) = false := beq_eq_false_iff_ne.2 he
            have hi0 := h0 he
            subst hi0
            go_wp2_with fail
            go_ret
            exact ⟨_, rfl, by rw [HRP.out, if_neg he]; exact HF.out, by rw [HRP.out, if_neg he]; rw [HL0.out] at HL; exact HL.out, HR.out⟩
        · obtain rfl : i = N := by omega
          have hlti : ¬ (i : Int) < (i : Int) := by omega
          by_cases he : s1.e = 0
          · go_wp2_with fail
            go_ret
            exact ⟨_, rfl, by rw [HRP.out, if_pos he]; exact HF.out, by rw [HRP.out, if_pos he]; have hh := HL.out; first | exact hh | (rw [show (l ++ List.replicate i x).length = l.length + i by simp] at hh; exact hh), HR.out⟩
          · have hi0 := h0 he
            subst hi0
            go_wp2_with fail
            go_ret
            exact ⟨_, rfl, by rw [HRP.out, if_neg he]; exact HF.out, by rw [HRP.out, if_neg he]; rw [HL0.out] at HL; exact HL.out, HR.out⟩
    · rw [if_neg (fun h => hlt h.2)] at hs1
      rw [hs1] at H
      clear hs1
      go_wp2_with fail
      go_loopw [11, 1] (fun vi vl wr => ∃ i : Nat, i ≤ N ∧ vi = .int .i64 i ∧ Hid (FS wr r g A n c bs most vo s1) ∧ Hid (RFr w0 wr r g vo vo) ∧ Hid (ownI wr w0.heap.size vl (l ++ List.replicate i x)) ∧ (¬ s1.e = 0 → i = 0)) (fun vi _ _ => N - (intOf vi).toNat)
      case atStart => exact ⟨0, Nat.zero_le _, rfl, H, HF0, (show ownI _ _ _ _ by rw [HL0.out]; exact HL.out), fun _ => rfl⟩
      case round =>
        obtain ⟨i, hi, rfl, HF, HR, HL, h0⟩ := hrel
        have e3 := (FR.arr HF.out).cell (k := 3) rfl
        obtain ⟨Aq, cq, rfl, -, -, -⟩ := HL.out.form
        have hlen : (l ++ List.replicate i x).length ≤ 2000 := by rw [List.length_append, List.length_replicate]; omega
        by_cases hlt : i < N
        · have hlti : (i : Int) < (N : Int) := by omega
          by_cases he : s1.e = 0
          · have d9 : (s1.e == 0) = true := by rw [he]; rfl
            have HSN := Lib.hid (rep_snoc l x i)
            have HLO : Hid (∀ k, (Value.slice Aq (l ++ List.replicate i x).length cq).ownBlock = some k → w0.heap.size ≤ k) := (show ∀ k, _ from fun k hk => (World.ownsRow.lt HL.out k hk).1)
            generalize l ++ List.replicate i x = ll at *
            have HLA := Lib.hid (ownI.alloc HL.out (.cells #[Value.int .i64 x] 3))
            have HFA := Lib.hid (FR.later HF.out ((Below.refl wr.heap.size wr).alloc (Nat.le_refl _) (.cells #[Value.int .i64 x] 3)))
            have HRA := Lib.hid (HR.out.allocd (.cells #[Value.int .i64 x] 3))
            have hq1 : ll.length + 1 ≤ 1099511627776 := by omega
            have hq2 : w0.heap.size ≤ (wr.alloc (.cells #[Value.int .i64 x] 3)).heap.size := HRA.out.size
            go_wp2_with (at_builtin; go_must (refine wpList_appendI rfl (.tmp 39) (.tmp 41) rfl w0.heap.size _ ll rfl HLA.out (wr.heap.size + 1) 1 1 (some ⟨wr.heap.size, 0, none⟩) [x] rfl (rd_oneI wr x) hq1 hq2 ?_; intro v5 w5 ho5 hg5 hb5 ha5; rw [HSN.out] at ho5; have HL5 := Lib.hid ho5; have HF5 := Lib.hid (FR.side HFA.out hr HV.out HLO.out hg5); have HR5 := Lib.hid (RFr.side (l := ll) HRA.out HLO.out hg5); clear ho5 hg5 hb5 ha5))
            go_roundw
            case rel => exact ⟨i + 1, by omega, by go_num, HF5, HR5, HL5, fun h => absurd he h⟩
            case measure => simp [intOf]; omega
          · have d9 : (s1.e == 0) = false := beq_eq_false_iff_ne.2 he
            have hi0 := h0 he
            subst hi0
            go_wp2_with fail
            go_ret
            exact ⟨_, rfl, by rw [HRP.out, if_neg he]; exact HF.out, by rw [HRP.out, if_neg he]; rw [HL0.out] at HL; exact HL.out, HR.out⟩
        · obtain rfl : i = N := by omega
          have hlti : ¬ (i : Int) < (i : Int) := by omega
          by_cases he : s1.e = 0
          · go_wp2_with fail
            go_ret
            exact ⟨_, rfl, by rw [HRP.out, if_pos he]; exact HF.out, by rw [HRP.out, if_pos he]; have hh := HL.out; first | exact hh | (rw [show (l ++ List.replicate i x).length = l.length + i by simp] at hh; exact hh), HR.out⟩
          · have hi0 := h0 he
            subst hi0
            go_wp2_with fail
            go_ret
            exact ⟨_, rfl, by rw [HRP.out, if_neg he]; exact HF.out, by rw [HRP.out, if_neg he]; rw [HL0.out] at HL; exact HL.out, HR.out⟩
  · have d1 : (s.e == 0) = false := beq_eq_false_iff_ne.2 he
    rw [if_neg (fun h => he h.1)] at hs1
    rw [hs1] at H
    clear hs1
    go_wp2_with fail
    go_loopw [11, 1] (fun vi vl wr => ∃ i : Nat, i ≤ N ∧ vi = .int .i64 i ∧ Hid (FS wr r g A n c bs most vo s1) ∧ Hid (RFr w0 wr r g vo vo) ∧ Hid (ownI wr w0.heap.size vl (l ++ List.replicate i x)) ∧ (¬ s1.e = 0 → i = 0)) (fun vi _ _ => N - (intOf vi).toNat)
    case atStart => exact ⟨0, Nat.zero_le _, rfl, H, HF0, (show ownI _ _ _ _ by rw [HL0.out]; exact HL.out), fun _ => rfl⟩
    case round =>
      obtain ⟨i, hi, rfl, HF, HR, HL, h0⟩ := hrel
      have e3 := (FR.arr HF.out).cell (k := 3) rfl
      obtain ⟨Aq, cq, rfl, -, -, -⟩ := HL.out.form
      have hlen : (l ++ List.replicate i x).length ≤ 2000 := by rw [List.length_append, List.length_replicate]; omega
      by_cases hlt : i < N
      · have hlti : (i : Int) < (N : Int) := by omega
        by_cases he : s1.e = 0
        · have d9 : (s1.e == 0) = true := by rw [he]; rfl
          have HSN := Lib.hid (rep_snoc l x i)
          have HLO : Hid (∀ k, (Value.slice Aq (l ++ List.replicate i x).length cq).ownBlock = some k → w0.heap.size ≤ k) := (show ∀ k, _ from fun k hk => (World.ownsRow.lt HL.out k hk).1)
          generalize l ++ List.replicate i x = ll at *
          have HLA := Lib.hid (ownI.alloc HL.out (.cells #[Value.int .i64 x] 3))
          have HFA := Lib.hid (FR.later HF.out ((Below.refl wr.heap.size wr).alloc (Nat.le_refl _) (.cells #[Value.int .i64 x] 3)))
          have HRA := Lib.hid (HR.out.allocd (.cells #[Value.int .i64 x] 3))
          have hq1 : ll.length + 1 ≤ 1099511627776 := by omega
          have hq2 : w0.heap.size ≤ (wr.alloc (.cells #[Value.int .i64 x] 3)).heap.size := HRA.out.size
          go_wp2_with (at_builtin; go_must (refine wpList_appendI rfl (.tmp 39) (.tmp 41) rfl w0.heap.size _ ll rfl HLA.out (wr.heap.size + 1) 1 1 (some ⟨wr.heap.size, 0, none⟩) [x] rfl (rd_oneI wr x) hq1 hq2 ?_; intro v5 w5 ho5 hg5 hb5 ha5; rw [HSN.out] at ho5; have HL5 := Lib.hid ho5; have HF5 := Lib.hid (FR.side HFA.out hr HV.out HLO.out hg5); have HR5 := Lib.hid (RFr.side (l := ll) HRA.out HLO.out hg5); clear ho5 hg5 hb5 ha5))
          go_roundw
          case rel => exact ⟨i + 1, by omega, by go_num, HF5, HR5, HL5, fun h => absurd he h⟩
          case measure => simp [intOf]; omega
        · have d9 : (s1.e == 0) = false := beq_eq_false_iff_ne.2 he
          have hi0 := h0 he
          subst hi0
          go_wp2_with fail
          go_ret
          exact ⟨_, rfl, by rw [HRP.out, if_neg he]; exact HF.out, by rw [HRP.out, if_neg he]; rw [HL0.out] at HL; exact HL.out, HR.out⟩
      · obtain rfl : i = N := by omega
        have hlti : ¬ (i : Int) < (i : Int) := by omega
        by_cases he : s1.e = 0
        · go_wp2_with fail
          go_ret
          exact ⟨_, rfl, by rw [HRP.out, if_pos he]; exact HF.out, by rw [HRP.out, if_pos he]; have hh := HL.out; first | exact hh | (rw [show (l ++ List.replicate i x).length = l.length + i by simp] at hh; exact hh), HR.out⟩
        · have hi0 := h0 he
          subst hi0
          go_wp2_with fail
          go_ret
          exact ⟨_, rfl, by rw [HRP.out, if_neg he]; exact HF.out, by rw [HRP.out, if_neg he]; rw [HL0.out] at HL; exact HL.out, HR.out⟩
end
end Go.Proofs.Ytfafijhmjnkjeaa

/- flate: the reader of blocks, whatever comes: lists of lengths. -/
namespace Go.Proofs.Ytfafijhmjnkjeaa
set_option linter.all false
open Go.RowKit

def errOf (w : World) (r : Nat) : Int := match w.cell? ⟨r, 3, none⟩ with
  | some (.int _ e) => e
  | _ => 0
theorem errOf_eq {w : World} {r : Nat} {e : Int} (h : w.cell? ⟨r, 3, none⟩ = some (.int .i64 e)) : errOf w r = e := by unfold errOf; rw [h]
def lenV (v : Value) : Nat := match v with
  | .slice _ n _ => n
  | _ => 0
def lmeasG (all r : Nat) (v : Value) (w : World) : Nat := if errOf w r = 0 then all + 1 - lenV v else 0
section
variable (r g n c : Nat) (A : Option Addr) (bs : List UInt8) (most : Int) (vo : Value) (s : RS) (w : World)
set_option maxRecDepth 100000 in
theorem rlist_err (dv : Value) (all : Nat) (h : FS w r g A n c bs most vo s) (he : ¬ s.e = 0) :
    Calls Try.prog 62 #[.pointer (some ⟨r, 0, none⟩), dv, .int .i64 (all : Int)] w fun e w' => e = .returned (.slice none 0 0) ∧ w = w' := by
  have c3 := (FR.arr h).cell (k := 3) rfl
  have d1 : (s.e == 0) = false := beq_eq_false_iff_ne.2 he
  clear h
  go_enter Try.func62, Try.ntmps62
  go_wp2_with fail
  go_loopw [7] (fun v7 wr => v7 = .slice none 0 0 ∧ wr = w) (fun _ _ => 0)
  case atStart => exact ⟨rfl, rfl⟩
  case round =>
    obtain ⟨rfl, rfl⟩ := hrel
    by_cases ha : 0 < all
    · have hai : (0 : Int) < (all : Int) := by omega
      go_wp2_with fail
      go_ret
      exact ⟨rfl, rfl⟩
    · have hai : ¬ (0 : Int) < (all : Int) := by omega
      go_wp2_with fail
      go_ret
      exact ⟨rfl, rfl⟩
set_option maxRecDepth 100000 in
set_option maxHeartbeats 6400000 in
theorem rlist_any (gd : Nat) (ls : List Int) (all f : Nat) (h : FS w r g A n c bs most vo s) (hd : DK w r g vo gd ls) (hok : OkL ls) (hall : all ≤ 1000) (hf : all + 1 ≤ f) :
    Calls Try.prog 62 #[.pointer (some ⟨r, 0, none⟩), .pointer (some ⟨gd, 0, none⟩), .int .i64 (all : Int)] w fun e w' => ∃ lv, e = .returned lv ∧ FS w' r g A n c bs most vo (listF bs ls all f [] s).2 ∧ ownI w' w.heap.size lv (listF bs ls all f [] s).1 ∧ (listF bs ls all f [] s).1.length ≤ all ∧ RFr w w' r g vo vo := by
  have H := Lib.hid h
  have HDK := Lib.hid hd
  have HOK := Lib.hid hok
  have hrw := (FR.arr h).lt
  have hgr := FR.gr h
  have HVO : Hid (∀ k, vo.ownBlock = some k → k < w.heap.size) := (show ∀ k, _ from fun k hk => (World.ownsRow.lt (FR.own h) k hk).2)
  have HR0 := Lib.hid (RFr.refl w r g vo)
  have HL0 := Lib.hid (ownI.nil_ w w.heap.size)
  obtain ⟨R, hR⟩ : ∃ R, listF bs ls all f [] s = R := ⟨_, rfl⟩
  rw [hR]
  have HE0 := Lib.hid hR
  have HFU : Hid (s.e = 0 → all + 1 ≤ ([] : List Int).length + f) := (show _ → _ from fun _ => by simp; omega)
  clear h hd hok hf hR
  go_enter Try.func62, Try.ntmps62
  go_wp2_with fail
  go_loopw [7] (fun v7 wr => ∃ (l : List Int) (cur : RS) (f : Nat), l.length ≤ all ∧ Hid (FS wr r g A n c bs most vo cur) ∧ Hid (RFr w wr r g vo vo) ∧ Hid (ownI wr w.heap.size v7 l) ∧ Hid (listF bs ls all f l cur = R) ∧ Hid (cur.e = 0 → all + 1 ≤ l.length + f)) (fun v7 wr => lmeasG all r v7 wr)
  case atStart => exact ⟨[], s, f, Nat.zero_le _, H, HR0, HL0, HE0, HFU⟩
  case round =>
    clear H HR0 HL0 HE0 HFU
    obtain ⟨l, cur, f, hla, HF, HR, HL, HE, HFU⟩ := hrel
    have e3 := (FR.arr HF.out).cell (k := 3) rfl
    have herr := errOf_eq e3
    obtain ⟨Al, cl, rfl, -, -, -⟩ := HL.out.form
    by_cases hlt : l.length < all
    · have hlti : (l.length : Int) < (all : Int) := by omega
      by_cases he : cur.e = 0
      · have d1 : (cur.e == 0) = true := by rw [he]; rfl
        obtain ⟨f, rfl⟩ : ∃ f', f = f' + 1 := ⟨f - 1, by have := HFU.out he; omega⟩
        have hfu := HFU.out he
        have HM0 : Hid (lmeasG all r (.slice Al l.length cl) wr = all + 1 - l.length) := (show _ = _ by unfold lmeasG; rw [herr, if_pos he]; rfl)
        have HN := Lib.hid (rnext_any r g n c A bs most vo cur wr gd ls HF.out (HDK.out.fr HR.out) HOK.out.1 HOK.out.2.1 HOK.out.2.2)
        have HST := Lib.hid (HE.out)
        rw [listF, if_pos ⟨hlt, he⟩] at HST
        obtain ⟨q, hq1, hq2, hq3⟩ := nextP_val bs ls cur
        have hq300 : q ≤ 300 := by have := HOK.out.2.2; omega
        rw [hq1] at HN HST
        clear hq1 hq2 hq3 HE HFU
        generalize (nextP bs ls cur).2 = t1 at *
        by_cases ht : t1.e = 0
        · have d2 : (t1.e == 0) = true := by rw [ht]; rfl
          have d2b : (t1.e != 0) = false := by rw [ht]; rfl
          rw [if_pos ht] at HST
          by_cases h16 : q < 16
          · have h16i : (q : Int) < 16 := by omega
            rw [if_pos h16i] at HST
            have HLN : Hid ((l ++ [(q : Int)]).length = l.length + 1) := (show _ = _ by simp)
            have hq9 : l.length + 1 ≤ 1099511627776 := by omega
            go_wp2_with (first
              | (go_at_call 90; (with_reducible refine HN.out.mono ?_); go_must (rintro e w5 ⟨rfl, hf5, hr5⟩; have e53 := (FR.arr hf5).cell (k := 3) rfl; have HR5 := Lib.hid (HR.out.trans hr5); have HL5 : Hid (ownI w5 w.heap.size (.slice Al l.length cl) l) := (show ownI _ _ _ _ from ownI.rfr HL.out hr5 hrw (by omega) (fun k hk hk2 => by have h1 := HVO.out k hk; have h2 := (World.ownsRow.lt HL.out k hk2).1; omega)); have HLA := Lib.hid (ownI.alloc HL5.out (.cells #[Value.int .i64 (q : Int)] 3)); have HFA := Lib.hid (FR.later hf5 ((Below.refl w5.heap.size w5).alloc (Nat.le_refl _) (.cells #[Value.int .i64 (q : Int)] 3))); have HRA := Lib.hid (HR5.out.allocd (.cells #[Value.int .i64 (q : Int)] 3)); have hqs : w.heap.size ≤ (w5.alloc (.cells #[Value.int .i64 (q : Int)] 3)).heap.size := HRA.out.size; have HLO : Hid (∀ k, (Value.slice Al l.length cl).ownBlock = some k → w.heap.size ≤ k) := (show ∀ k, _ from fun k hk => (World.ownsRow.lt HL5.out k hk).1); clear hf5 hr5))
              | (at_builtin; go_must (refine wpList_appendI rfl (.tmp 39) (.tmp 41) rfl w.heap.size _ l rfl HLA.out (w5.heap.size + 1) 1 1 (some ⟨w5.heap.size, 0, none⟩) [(q : Int)] rfl (rd_oneI w5 (q : Int)) hq9 hqs ?_; intro v6 w6 ho6 hg6 hb6 ha6; obtain ⟨A6, c6, rfl, -, -, -⟩ := ho6.form; rw [HLN.out] at ho6; have HL6 := Lib.hid ho6; have HF6 := Lib.hid (FR.side HFA.out hrw HVO.out HLO.out hg6); have HR6 := Lib.hid (RFr.side (l := l) HRA.out HLO.out hg6); clear ho6 hg6 hb6 ha6)))
            have e63 := (FR.arr HF6.out).cell (k := 3) rfl
            have herr6 := errOf_eq e63
            have HF6 : Hid (FS w6 r g A n c bs most vo t1) := HF6
            have HFU2 : Hid (t1.e = 0 → all + 1 ≤ (l ++ [(q : Int)]).length + f) := (show _ → _ from fun _ => by rw [HLN.out]; omega)
            go_roundw
            case rel => exact ⟨l ++ [(q : Int)], t1, f, by rw [HLN.out]; omega, HF6, HR6, HL6, HST, HFU2⟩
            case measure =>
              rw [HM0.out]
              unfold lmeasG
              rw [herr6, if_pos ht]
              show all + 1 - (l.length + 1) < _
              omega
          · have h16i : ¬ (q : Int) < 16 := by omega
            rw [if_neg h16i] at HST
            by_cases hq16 : q = 16
            · subst hq16
              rw [if_pos (show ((16 : Nat) : Int) = 16 from rfl)] at HST
              by_cases hl0 : l.length = 0
              · rw [if_pos hl0] at HST
                have hl0i : (l.length : Int) = 0 := by omega
                have hl0b : ((l.length : Int) == 0) = true := by rw [hl0]; rfl
                have HFL := Lib.hid (fun w5 (h : FS w5 r g A n c bs most vo t1) => rfail_any r g n c A bs most vo t1 w5 4 h)
                have hfe : (t1.fail 4).e = 4 := by unfold RS.fail; rw [if_pos ht]
                have HS2 : Hid (listF bs ls all f l (t1.fail 4) = R) := (show _ = _ by rw [← HST.out, listF_stop (fun h => by rw [hfe] at h; exact absurd h.2 (by decide))])
                have HFU2 : Hid ((t1.fail 4).e = 0 → all + 1 ≤ l.length + f) := (show _ → _ from fun h => by rw [hfe] at h; exact absurd h (by decide))
                clear hl0 hl0i
                go_wp2_with (first
                  | (go_at_call 90; (with_reducible refine HN.out.mono ?_); go_must (rintro e w5 ⟨rfl, hf5, hr5⟩; have e53 := (FR.arr hf5).cell (k := 3) rfl; have HR5 := Lib.hid (HR.out.trans hr5); have HL5 : Hid (ownI w5 w.heap.size (.slice Al l.length cl) l) := (show ownI _ _ _ _ from ownI.rfr HL.out hr5 hrw (by omega) (fun k hk hk2 => by have h1 := HVO.out k hk; have h2 := (World.ownsRow.lt HL.out k hk2).1; omega)); have HFL5 := Lib.hid (HFL.out w5 hf5); clear hf5 hr5))
                  | (go_at_call 30; (with_reducible refine HFL5.out.mono ?_); go_must (rintro e w6 ⟨rfl, hf6, hr6⟩; have HF6 := Lib.hid hf6; have HR6 := Lib.hid (HR5.out.trans hr6); have HL6 : Hid (ownI w6 w.heap.size (.slice Al l.length cl) l) := (show ownI _ _ _ _ from ownI.rfr HL5.out hr6 hrw (by omega) (fun k hk hk2 => by have h1 := HVO.out k hk; have h2 := (World.ownsRow.lt HL5.out k hk2).1; omega)); clear hf6 hr6)))
                have e63 := (FR.arr HF6.out).cell (k := 3) rfl
                have herr6 := errOf_eq e63
                go_roundw
                case rel => exact ⟨l, t1.fail 4, f, hla, HF6, HR6, HL6, HS2, HFU2⟩
                case measure =>
                  rw [HM0.out]
                  unfold lmeasG
                  rw [herr6, hfe, if_neg (by decide)]
                  omega
              · rw [if_neg hl0] at HST
                have hl0b : ((l.length : Int) == 0) = false := beq_eq_false_iff_ne.2 (by omega)
                have hlD : l.length - 1 < l.length := by omega
                have hgd : l.getD (l.length - 1) 0 = l[l.length - 1] := by rw [List.getD_eq_getElem?_getD, List.getElem?_eq_getElem hlD]; rfl
                rw [hgd] at HST
                obtain ⟨-, gq, rfl, hgq1, hgq2⟩ := ownI.pos HL.out (show 0 < l.length by omega)
                have HCL : Hid (∀ w', ownI w' w.heap.size (.slice (some ⟨gq, 0, none⟩) l.length cl) l → w'.cell? ⟨gq, l.length - 1, none⟩ = some (.int .i64 l[l.length - 1])) := (show ∀ w', _ from fun w' h => ownI.cell h rfl hlD)
                generalize l[l.length - 1] = x at *
                have HG := Lib.hid (fun w5 (h : FS w5 r g A n c bs most vo t1) => rget_any r g n c A bs most vo t1 w5 2 2 rfl h (by omega))
                have hv := getP_lt bs t1 (m := 2) (by omega)
                generalize (getP bs t1 2).1 = v at *
                generalize (getP bs t1 2).2 = t2 at *
                have hvb : v < 200 := Nat.lt_of_lt_of_le hv (by decide)
                obtain ⟨N, hN⟩ : ∃ N, 3 + v = N := ⟨_, rfl⟩
                have hNi : (3 : Int) + (v : Int) = (N : Int) := by omega
                have hN3 : 3 ≤ N := by omega
                rw [hN] at HST
                have HRP := Lib.hid (fun w6 lv (h : FS w6 r g A n c bs most vo t2) (hf : RFr w w6 r g vo vo) (hl : ownI w6 w.heap.size lv l) => rrepeat_any r g n c A bs most vo t2 w w6 lv l x N all h hf hl hrw HVO.out (by omega) hall (by omega))
                have hrl := repP_len l x N all t2 hla
                generalize repP l x N all t2 = PP at *
                clear hv hN
                obtain ⟨L, hL⟩ : ∃ L, l.length = L := ⟨_, rfl⟩
                obtain ⟨D, hD⟩ : ∃ D, l.length - 1 = D := ⟨_, rfl⟩
                rw [hD] at HCL
                have hDi : (l.length : Int) - 1 = (D : Int) := by omega
                have hDw : IntKind.i64.wrap (D : Int) = (D : Int) := wrap_i64_lt D (by omega)
                have hDw2 : IntKind.i64.wrap ((l.length : Int) - 1) = (D : Int) := by rw [hDi]; exact hDw
                have hNw : IntKind.i64.wrap (N : Int) = (N : Int) := wrap_i64_lt N (by omega)
                have hNw2 : IntKind.i64.wrap ((3 : Int) + (v : Int)) = (N : Int) := by rw [hNi]; exact hNw
                have hDl : D < l.length := by omega
                clear hL hD
                go_upto_region 11 with ((go_at_call 90; (with_reducible refine HN.out.mono ?_); go_must (rintro e w5 ⟨rfl, hf5, hr5⟩; have e53 := (FR.arr hf5).cell (k := 3) rfl; have HR5 := Lib.hid (HR.out.trans hr5); have HL5 : Hid (ownI w5 w.heap.size (.slice (some ⟨gq, 0, none⟩) l.length cl) l) := (show ownI _ _ _ _ from ownI.rfr HL.out hr5 hrw (by omega) (fun k hk hk2 => by have h1 := HVO.out k hk; have h2 := (World.ownsRow.lt HL.out k hk2).1; omega)); have HG5d := Lib.hid (HG.out w5.drew (show FS w5.drew r g A n c bs most vo t1 from FR.drewN hf5 1)); have hc5 := HCL.out w5 HL5.out; clear hf5 hr5)))
                go_region_with (first
                  | (go_at_call 26; (with_reducible refine HG5d.out.mono ?_); go_must (rintro e w6 ⟨rfl, hf6, hr6⟩; have HR6 := Lib.hid ((show RFr w w5.drew r g vo vo from RFr.drewN HR5.out 1).trans hr6); have HL6 : Hid (ownI w6 w.heap.size (Value.slice (some ⟨gq, 0, none⟩) l.length cl) l) := (show ownI _ _ _ _ from ownI.rfr HL5.out.drew hr6 hrw (by have := HR5.out.size; omega) (fun k hk hk2 => by have h1 := HVO.out k hk; have h2 := (World.ownsRow.lt HL5.out k hk2).1; omega)); have hc6 := HCL.out w6 HL6.out; have HRP6 := Lib.hid (HRP.out w6 (Value.slice (some ⟨gq, 0, none⟩) l.length cl) hf6 HR6.out HL6.out); clear hf6 hr6))
                  | (go_at_call 94; (with_reducible refine HRP6.out.mono ?_); go_must (rintro e w7 ⟨v7, rfl, hf7, hl7, hr7⟩; have HF7 := Lib.hid hf7; have HL7 := Lib.hid hl7; have HR7 := Lib.hid hr7; clear hf7 hl7 hr7)))
                all_goals
                  go_simp
                  go_wp2_with fail
                  have e73 := (FR.arr HF7.out).cell (k := 3) rfl
                  have herr7 := errOf_eq e73
                  obtain ⟨A7, c7, rfl, -, -, -⟩ := HL7.out.form
                  have HFU2 : Hid (PP.2.e = 0 → all + 1 ≤ PP.1.length + f) := (show _ → _ from fun h0 => by rw [hrl.2 h0]; omega)
                  have HRL := Lib.hid hrl
                  clear hrl
                  go_roundw
                  case rel => exact ⟨PP.1, PP.2, f, HRL.out.1, HF7, HR7, HL7, HST, HFU2⟩
                  case measure =>
                    rw [HM0.out]
                    unfold lmeasG
                    rw [herr7]
                    by_cases h0 : PP.2.e = 0
                    · rw [if_pos h0]
                      have := HRL.out.2 h0
                      show all + 1 - PP.1.length < _
                      omega
                    · rw [if_neg h0]
                      omega
            · have hq16b : ((q : Int) == 16) = false := beq_eq_false_iff_ne.2 (by omega)
              rw [if_neg (by omega : ¬ (q : Int) = 16)] at HST
              by_cases hq17 : q = 17
              · subst hq17
                rw [if_pos (show ((17 : Nat) : Int) = 17 from rfl)] at HST
                have HG := Lib.hid (fun w5 (h : FS w5 r g A n c bs most vo t1) => rget_any r g n c A bs most vo t1 w5 3 3 rfl h (by omega))
                have hv := getP_lt bs t1 (m := 3) (by omega)
                generalize (getP bs t1 3).1 = v at *
                generalize (getP bs t1 3).2 = t2 at *
                have hvb : v < 200 := Nat.lt_of_lt_of_le hv (by decide)
                obtain ⟨N, hN⟩ : ∃ N, 3 + v = N := ⟨_, rfl⟩
                have hNi : (3 : Int) + (v : Int) = (N : Int) := by omega
                have hN3 : 3 ≤ N := by omega
                rw [hN] at HST
                have HRP := Lib.hid (fun w6 lv (h : FS w6 r g A n c bs most vo t2) (hf : RFr w w6 r g vo vo) (hl : ownI w6 w.heap.size lv l) => rrepeat_any r g n c A bs most vo t2 w w6 lv l 0 N all h hf hl hrw HVO.out (by omega) hall (by omega))
                have hrl := repP_len l 0 N all t2 hla
                generalize repP l 0 N all t2 = PP at *
                clear hv hN
                go_wp2_with (first
                  | (go_at_call 90; (with_reducible refine HN.out.mono ?_); go_must (rintro e w5 ⟨rfl, hf5, hr5⟩; have e53 := (FR.arr hf5).cell (k := 3) rfl; have HR5 := Lib.hid (HR.out.trans hr5); have HL5 : Hid (ownI w5 w.heap.size (.slice Al l.length cl) l) := (show ownI _ _ _ _ from ownI.rfr HL.out hr5 hrw (by omega) (fun k hk hk2 => by have h1 := HVO.out k hk; have h2 := (World.ownsRow.lt HL.out k hk2).1; omega)); have HG5 := Lib.hid (HG.out w5 hf5); clear hf5 hr5))
                  | (go_at_call 26; (with_reducible refine HG5.out.mono ?_); go_must (rintro e w6 ⟨rfl, hf6, hr6⟩; have HR6 := Lib.hid (HR5.out.trans hr6); have HL6 : Hid (ownI w6 w.heap.size (.slice Al l.length cl) l) := (show ownI _ _ _ _ from ownI.rfr HL5.out hr6 hrw (by omega) (fun k hk hk2 => by have h1 := HVO.out k hk; have h2 := (World.ownsRow.lt HL5.out k hk2).1; omega)); have HRP6 := Lib.hid (HRP.out w6 (.slice Al l.length cl) hf6 HR6.out HL6.out); clear hf6 hr6))
                  | (go_at_call 94; (with_reducible refine HRP6.out.mono ?_); go_must (rintro e w7 ⟨v7, rfl, hf7, hl7, hr7⟩; have HF7 := Lib.hid hf7; have HL7 := Lib.hid hl7; have HR7 := Lib.hid hr7; clear hf7 hl7 hr7)))
                have e73 := (FR.arr HF7.out).cell (k := 3) rfl
                have herr7 := errOf_eq e73
                obtain ⟨A7, c7, rfl, -, -, -⟩ := HL7.out.form
                have HFU2 : Hid (PP.2.e = 0 → all + 1 ≤ PP.1.length + f) := (show _ → _ from fun h0 => by rw [hrl.2 h0]; omega)
                have HRL := Lib.hid hrl
                clear hrl
                go_roundw
                case rel => exact ⟨PP.1, PP.2, f, HRL.out.1, HF7, HR7, HL7, HST, HFU2⟩
                case measure =>
                  rw [HM0.out]
                  unfold lmeasG
                  rw [herr7]
                  by_cases h0 : PP.2.e = 0
                  · rw [if_pos h0]
                    have := HRL.out.2 h0
                    show all + 1 - PP.1.length < _
                    omega
                  · rw [if_neg h0]
                    omega
              · have hq17b : ((q : Int) == 17) = false := beq_eq_false_iff_ne.2 (by omega)
                rw [if_neg (by omega : ¬ (q : Int) = 17)] at HST
                have HG := Lib.hid (fun w5 (h : FS w5 r g A n c bs most vo t1) => rget_any r g n c A bs most vo t1 w5 7 7 rfl h (by omega))
                have hv := getP_lt bs t1 (m := 7) (by omega)
                generalize (getP bs t1 7).1 = v at *
                generalize (getP bs t1 7).2 = t2 at *
                have hvb : v < 200 := Nat.lt_of_lt_of_le hv (by decide)
                obtain ⟨N, hN⟩ : ∃ N, 11 + v = N := ⟨_, rfl⟩
                have hNi : (11 : Int) + (v : Int) = (N : Int) := by omega
                have hN3 : 3 ≤ N := by omega
                rw [hN] at HST
                have HRP := Lib.hid (fun w6 lv (h : FS w6 r g A n c bs most vo t2) (hf : RFr w w6 r g vo vo) (hl : ownI w6 w.heap.size lv l) => rrepeat_any r g n c A bs most vo t2 w w6 lv l 0 N all h hf hl hrw HVO.out (by omega) hall (by omega))
                have hrl := repP_len l 0 N all t2 hla
                generalize repP l 0 N all t2 = PP at *
                clear hv hN
                go_wp2_with (first
                  | (go_at_call 90; (with_reducible refine HN.out.mono ?_); go_must (rintro e w5 ⟨rfl, hf5, hr5⟩; have e53 := (FR.arr hf5).cell (k := 3) rfl; have HR5 := Lib.hid (HR.out.trans hr5); have HL5 : Hid (ownI w5 w.heap.size (.slice Al l.length cl) l) := (show ownI _ _ _ _ from ownI.rfr HL.out hr5 hrw (by omega) (fun k hk hk2 => by have h1 := HVO.out k hk; have h2 := (World.ownsRow.lt HL.out k hk2).1; omega)); have HG5 := Lib.hid (HG.out w5 hf5); clear hf5 hr5))
                  | (go_at_call 26; (with_reducible refine HG5.out.mono ?_); go_must (rintro e w6 ⟨rfl, hf6, hr6⟩; have HR6 := Lib.hid (HR5.out.trans hr6); have HL6 : Hid (ownI w6 w.heap.size (.slice Al l.length cl) l) := (show ownI _ _ _ _ from ownI.rfr HL5.out hr6 hrw (by omega) (fun k hk hk2 => by have h1 := HVO.out k hk; have h2 := (World.ownsRow.lt HL5.out k hk2).1; omega)); have HRP6 := Lib.hid (HRP.out w6 (.slice Al l.length cl) hf6 HR6.out HL6.out); clear hf6 hr6))
                  | (go_at_call 94; (with_reducible refine HRP6.out.mono ?_); go_must (rintro e w7 ⟨v7, rfl, hf7, hl7, hr7⟩; have HF7 := Lib.hid hf7; have HL7 := Lib.hid hl7; have HR7 := Lib.hid hr7; clear hf7 hl7 hr7)))
                have e73 := (FR.arr HF7.out).cell (k := 3) rfl
                have herr7 := errOf_eq e73
                obtain ⟨A7, c7, rfl, -, -, -⟩ := HL7.out.form
                have HFU2 : Hid (PP.2.e = 0 → all + 1 ≤ PP.1.length + f) := (show _ → _ from fun h0 => by rw [hrl.2 h0]; omega)
                have HRL := Lib.hid hrl
                clear hrl
                go_roundw
                case rel => exact ⟨PP.1, PP.2, f, HRL.out.1, HF7, HR7, HL7, HST, HFU2⟩
                case measure =>
                  rw [HM0.out]
                  unfold lmeasG
                  rw [herr7]
                  by_cases h0 : PP.2.e = 0
                  · rw [if_pos h0]
                    have := HRL.out.2 h0
                    show all + 1 - PP.1.length < _
                    omega
                  · rw [if_neg h0]
                    omega
        · have d2 : (t1.e == 0) = false := beq_eq_false_iff_ne.2 ht
          have d2b : (t1.e != 0) = true := by rw [bne_iff_ne]; exact ht
          rw [if_neg ht] at HST
          have HS2 : Hid (listF bs ls all f l t1 = R) := (show _ = _ by rw [← HST.out, listF_stop (fun h => ht h.2)])
          have HFU2 : Hid (t1.e = 0 → all + 1 ≤ l.length + f) := (show _ → _ from fun h => absurd h ht)
          go_wp2_with (go_at_call 90; (with_reducible refine HN.out.mono ?_); go_must (rintro e w5 ⟨rfl, hf5, hr5⟩; have e53 := (FR.arr hf5).cell (k := 3) rfl; have HR5 := Lib.hid (HR.out.trans hr5); have HL5 : Hid (ownI w5 w.heap.size (.slice Al l.length cl) l) := (show ownI _ _ _ _ from ownI.rfr HL.out hr5 hrw (by omega) (fun k hk hk2 => by have h1 := HVO.out k hk; have h2 := (World.ownsRow.lt HL.out k hk2).1; omega)); have HF5 := Lib.hid hf5; clear hf5 hr5))
          have herr5 := errOf_eq e53
          go_roundw
          case rel => exact ⟨l, t1, f, hla, HF5, HR5, HL5, HS2, HFU2⟩
          case measure =>
            rw [HM0.out]
            unfold lmeasG
            rw [herr5, if_neg ht]
            omega
      · have d1 : (cur.e == 0) = false := beq_eq_false_iff_ne.2 he
        have HS : Hid ((l, cur) = R) := (show _ = _ by rw [← HE.out, listF_stop (fun h => he h.2)])
        go_wp2_with fail
        go_ret
        exact ⟨_, rfl, by rw [← HS.out]; exact HF.out, by rw [← HS.out]; exact HL.out, by rw [← HS.out]; exact hla, HR.out⟩
    · have hlti : ¬ (l.length : Int) < (all : Int) := by omega
      have HS : Hid ((l, cur) = R) := (show _ = _ by rw [← HE.out, listF_stop (fun h => hlt h.1)])
      go_wp2_with fail
      go_ret
      exact ⟨_, rfl, by rw [← HS.out]; exact HF.out, by rw [← HS.out]; exact HL.out, by rw [← HS.out]; exact hla, HR.out⟩
end
end Go.Proofs.Ytfafijhmjnkjeaa

/- flate: what a reader of blocks does, plainly: a block of its own codes, the fixed codes, all blocks. -/
namespace Go.Proofs.Ytfafijhmjnkjeaa
set_option linter.all false

def hdN (bs : List UInt8) (s : RS) : Nat := 257 + (getP bs s 5).1
def hdA (bs : List UInt8) (s : RS) : RS := if 286 < hdN bs s then (getP bs s 5).2.fail 4 else (getP bs s 5).2
def hdM (bs : List UInt8) (s : RS) : Nat := 1 + (getP bs (hdA bs s) 5).1
def hdB (bs : List UInt8) (s : RS) : RS := if 30 < hdM bs s then (getP bs (hdA bs s) 5).2.fail 4 else (getP bs (hdA bs s) 5).2
def hdQ (bs : List UInt8) (s : RS) : Nat := 4 + (getP bs (hdB bs s) 4).1
def lenRd (bs : List UInt8) : List Nat → List Int → RS → List Int × RS
  | [], l, s => (l, s)
  | k :: ks, l, s => lenRd bs ks (l.set k ((getP bs s 3).1 : Int)) (getP bs s 3).2
def hdL (bs : List UInt8) (s : RS) : List Int × RS := lenRd bs (ordL.take (hdQ bs s)) (List.replicate 19 0) (getP bs (hdB bs s) 4).2
/-- A list read by a decoder, or by none. -/
def listD (bs : List UInt8) (D : Option (List Int)) (all : Nat) (s : RS) : List Int × RS := match D with
  | some ls => listF bs ls all (all + 1) [] s
  | none => ([], s)
def ownLs (bs : List UInt8) (s : RS) : List Int × RS := listD bs (decD (hdL bs s).1 (hdL bs s).2) (hdN bs s + hdM bs s) (decP (hdL bs s).1 false (hdL bs s).2)
def noneP (ls : List Int) : Bool := cPos ls == 0
def own1 (all : List Int) (s : RS) : RS := if all.getD 256 0 = 0 then s.fail 4 else s
def own2 (all : List Int) (n : Nat) (s : RS) : RS := decP (all.take n) false (own1 all s)
def ownDD (all : List Int) (n : Nat) (s : RS) : Option (List Int) := if noneP (all.drop n) = true then none else decD (all.drop n) (own2 all n s)
def own3 (all : List Int) (n : Nat) (s : RS) : RS := if noneP (all.drop n) = true then own2 all n s else decP (all.drop n) true (own2 all n s)
def ownT (bs : List UInt8) (most : Int) (all : List Int) (n f : Nat) (s : RS) : RS :=
  if s.e = 0 then (if (own3 all n s).e = 0 then toksF bs most (all.take n) (ownDD all n s) f (own3 all n s) else own3 all n s) else s
/-- A block of its own codes. -/
def rownP (bs : List UInt8) (most : Int) (f : Nat) (s : RS) : RS := ownT bs most (ownLs bs s).1 (hdN bs s) f (ownLs bs s).2
/-- A block of the fixed codes. -/
def rfixP (bs : List UInt8) (most : Int) (f : Nat) (s : RS) : RS := toksF bs most fixL (some fixD) f s
theorem decP_out (ls : List Int) (a : Bool) (s : RS) : (decP ls a s).out = s.out := by
  unfold decP
  split
  · split
    · split
      · exact fail_out s 4
      · rfl
    · exact fail_out s 4
  · rfl
theorem decP_p (ls : List Int) (a : Bool) (s : RS) : (decP ls a s).p = s.p := by
  unfold decP
  split
  · split
    · split
      · exact fail_p s 4
      · rfl
    · exact fail_p s 4
  · rfl
theorem fail_e {s : RS} {e : Int} (he : ¬ e = 0) : ¬ (s.fail e).e = 0 := by
  unfold RS.fail
  split
  · exact he
  · assumption
theorem decD_none {ls : List Int} {a : Bool} {s : RS} (h : decD ls s = none) : ¬ (decP ls a s).e = 0 := by
  unfold decD at h
  unfold decP
  split at h
  · cases h
  · rename_i h2
    split
    · rename_i he
      rw [if_neg (fun hn => h2 ⟨he, hn⟩)]
      exact fail_e (by decide)
    · assumption
theorem decP_zero {ls : List Int} {a : Bool} {s : RS} (h : (decP ls a s).e = 0) : s.e = 0 ∧ decP ls a s = s ∧ decD ls s = some ls := by
  unfold decP at h ⊢
  unfold decD
  by_cases he : s.e = 0
  · rw [if_pos he] at h ⊢
    by_cases hn : nwE ls = 0
    · rw [if_pos hn] at h ⊢
      by_cases hb : decBad ls a
      · rw [if_pos hb] at h
        exact absurd h (fail_e (by decide))
      · rw [if_neg hb]
        exact ⟨he, rfl, if_pos ⟨he, hn⟩⟩
    · rw [if_neg hn] at h
      exact absurd h (fail_e (by decide))
  · rw [if_neg he] at h
    exact absurd h he
theorem own1_zero {all : List Int} {s : RS} (h : (own1 all s).e = 0) : s.e = 0 ∧ own1 all s = s := by
  unfold own1 at h ⊢
  split at h
  · exact absurd h (fail_e (by decide))
  · rename_i h2
    rw [if_neg h2]
    exact ⟨h, rfl⟩
theorem own3_zero {all : List Int} {n : Nat} {s : RS} (h : (own3 all n s).e = 0) : own3 all n s = s ∧ decD (all.take n) (own1 all s) = some (all.take n) := by
  have key : (own2 all n s).e = 0 ∧ own3 all n s = own2 all n s := by
    unfold own3 at h ⊢
    split at h
    · rename_i h2; rw [if_pos h2]; exact ⟨h, rfl⟩
    · rename_i h2; rw [if_neg h2]; obtain ⟨h1, h3, -⟩ := decP_zero h; exact ⟨h1, h3⟩
  rw [key.2]
  obtain ⟨h1, h2, h3⟩ := decP_zero key.1
  refine ⟨?_, h3⟩
  unfold own2
  rw [h2]
  exact (own1_zero h1).2
theorem lenRd_len (bs : List UInt8) : ∀ (ks : List Nat) (l : List Int) (s : RS), (lenRd bs ks l s).1.length = l.length
  | [], l, s => rfl
  | k :: ks, l, s => by rw [lenRd, lenRd_len bs ks, List.length_set]
theorem lenRd_out (bs : List UInt8) : ∀ (ks : List Nat) (l : List Int) (s : RS), (lenRd bs ks l s).2.out = s.out
  | [], l, s => rfl
  | k :: ks, l, s => by rw [lenRd, lenRd_out bs ks, getP_out]
theorem repP_out (l : List Int) (x : Int) (n all : Nat) (s : RS) : (repP l x n all s).2.out = s.out := by
  have : (rep0 l n all s).out = s.out := by
    unfold rep0
    split
    · exact fail_out s 4
    · rfl
  unfold repP
  split <;> exact this
theorem listF_out (bs : List UInt8) (ls : List Int) (all : Nat) : ∀ (f : Nat) (l : List Int) (s : RS), (listF bs ls all f l s).2.out = s.out
  | 0, l, s => rfl
  | f + 1, l, s => by
    rw [listF]
    split
    · split
      · split
        · rw [listF_out bs ls all f, nextP_out]
        · split
          · split
            · show (RS.fail _ 4).out = _
              rw [fail_out, nextP_out]
            · rw [listF_out bs ls all f, repP_out, getP_out, nextP_out]
          · split
            · rw [listF_out bs ls all f, repP_out, getP_out, nextP_out]
            · rw [listF_out bs ls all f, repP_out, getP_out, nextP_out]
      · exact nextP_out bs ls s
    · rfl
theorem listD_out (bs : List UInt8) (D : Option (List Int)) (all : Nat) (s : RS) : (listD bs D all s).2.out = s.out := by
  cases D with
  | none => rfl
  | some ls => exact listF_out bs ls all _ _ s
theorem hdA_out (bs : List UInt8) (s : RS) : (hdA bs s).out = s.out := by
  unfold hdA
  split
  · rw [fail_out, getP_out]
  · rw [getP_out]
theorem hdB_out (bs : List UInt8) (s : RS) : (hdB bs s).out = s.out := by
  unfold hdB
  split
  · rw [fail_out, getP_out, hdA_out]
  · rw [getP_out, hdA_out]
theorem ownLs_out (bs : List UInt8) (s : RS) : (ownLs bs s).2.out = s.out := by
  unfold ownLs hdL
  rw [listD_out, decP_out, lenRd_out, getP_out, hdB_out]
/-- A list read without an error is whole. -/
theorem listF_full (bs : List UInt8) (ls : List Int) (all : Nat) : ∀ (f : Nat) (l : List Int) (s : RS), l.length ≤ all → all + 1 ≤ l.length + f → (listF bs ls all f l s).2.e = 0 → (listF bs ls all f l s).1.length = all
  | 0, l, s, hl, hf, h => by omega
  | f + 1, l, s, hl, hf, h => by
    rw [listF] at h ⊢
    by_cases h1 : l.length < all ∧ s.e = 0
    · rw [if_pos h1] at h ⊢
      by_cases h2 : (nextP bs ls s).2.e = 0
      · rw [if_pos h2] at h ⊢
        have rp : ∀ (x : Int) (k : Nat) (t : RS), 3 ≤ k → (listF bs ls all f (repP l x k all t).1 (repP l x k all t).2).2.e = 0 → (listF bs ls all f (repP l x k all t).1 (repP l x k all t).2).1.length = all := fun x k t hk h => by
          have h4 := repP_len l x k all t hl
          by_cases he : (repP l x k all t).2.e = 0
          · exact listF_full bs ls all f _ _ h4.1 (by rw [h4.2 he]; omega) h
          · rw [listF_stop (fun hh => he hh.2)] at h
            exact absurd h he
        by_cases h3 : (nextP bs ls s).1 < 16
        · rw [if_pos h3] at h ⊢
          exact listF_full bs ls all f _ _ (by simp; omega) (by simp; omega) h
        · rw [if_neg h3] at h ⊢
          by_cases h4 : (nextP bs ls s).1 = 16
          · rw [if_pos h4] at h ⊢
            by_cases h5 : l.length = 0
            · rw [if_pos h5] at h
              exact absurd h (fail_e (by decide))
            · rw [if_neg h5] at h ⊢
              exact rp _ _ _ (by omega) h
          · rw [if_neg h4] at h ⊢
            by_cases h5 : (nextP bs ls s).1 = 17
            · rw [if_pos h5] at h ⊢
              exact rp _ _ _ (by omega) h
            · rw [if_neg h5] at h ⊢
              exact rp _ _ _ (by omega) h
      · rw [if_neg h2] at h
        exact absurd h h2
    · rw [if_neg h1] at h ⊢
      have h' : s.e = 0 := h
      show l.length = all
      have : ¬ l.length < all := fun hh => h1 ⟨hh, h'⟩
      omega
theorem ownLs_full (bs : List UInt8) (s : RS) (h : (ownLs bs s).2.e = 0) : (ownLs bs s).1.length = hdN bs s + hdM bs s := by
  unfold ownLs at h ⊢
  cases hD : decD (hdL bs s).1 (hdL bs s).2 with
  | none =>
    rw [hD] at h
    exact absurd h (decD_none hD)
  | some ls =>
    rw [hD] at h
    exact listF_full bs ls _ _ [] _ (Nat.zero_le _) (by simp) h
end Go.Proofs.Ytfafijhmjnkjeaa
