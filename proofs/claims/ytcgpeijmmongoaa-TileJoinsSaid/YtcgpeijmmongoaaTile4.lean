/- tile: one row of a tile copied (the functions that Cut and Join hand to rows). -/
import Derived.Test.YtcgpeijmmongoaaTile3
import Derived.Test.YtcgpeijmmongoaaBox
import Derived.Test.YtcgpeijmmongoaaSet1
import Derived.Deep.RegionLaw
namespace Go.Proofs.Ytcgpeijmmongoaa
set_option linter.all false
open Go.RowKit

theorem grown_setRow (w : World) (g : Nat) (cs : Array Value) : w.grownBy (w.setRow g cs) (some g) :=
  ⟨rfl, rfl, rfl, by simp [World.setRow], fun k _ hk => setRow_other w g k cs (fun e => hk (by rw [e]))⟩
theorem grown_refl (w : World) (row : Option Nat) : w.grownBy w row := ⟨rfl, rfl, rfl, Nat.le_refl _, fun _ _ _ => rfl⟩
theorem grown_drew {w w' : World} {row : Option Nat} (h : w.grownBy w' row) : w.grownBy w'.drew row := ⟨h.os, h.tape, h.output, h.size, h.block⟩
theorem grown_ofDrew {w w' : World} {row : Option Nat} (h : w.drew.grownBy w' row) : w.grownBy w' row := ⟨h.os, h.tape, h.output, h.size, h.block⟩
theorem grown_below {w w' : World} (h : Below w.heap.size w w') (row : Option Nat) : w.grownBy w' row := ⟨h.os, h.tape, h.output, h.size, fun i hi _ => h.block i hi⟩
theorem below_grown {B g : Nat} {w w' : World} (h : w.grownBy w' (some g)) (hB : B ≤ w.heap.size) (hg : B ≤ g) : Below B w w' :=
  ⟨h.os, h.tape, h.output, h.size, fun i hi => h.block i (by omega) (fun e => by injection e; omega)⟩
theorem keptG {w w' : World} {b g : Nat} {F : Nat → Option Value} {v : Value} (c : ∀ i, w.cell? ⟨b, i, none⟩ = F i) (h0 : F 0 = some v) (h : w.grownBy w' (some g)) (hb : b ≠ g) : ∀ i, w'.cell? ⟨b, i, none⟩ = F i :=
  fun i => (h.cell_far ⟨b, i, none⟩ (ltOf c h0) (fun e => hb (by injection e))).trans (c i)
theorem keptFG {w w' : World} {b g : Nat} (hl : b < w.heap.size) (f : ∀ i, w.frozen? ⟨b, i, none⟩ = false) (h : w.grownBy w' (some g)) (hb : b ≠ g) : ∀ i, w'.frozen? ⟨b, i, none⟩ = false :=
  fun i => (h.frozen_far ⟨b, i, none⟩ hl (fun e => hb (by injection e))).trans (f i)

/-- copy(d, s) into a row of the call's own, as a step of a region that draws its order. -/
theorem step_copyG {ops : Array Oper} {o : Oper} {a : Act} {w : World} {K : Act → World → Prop} {Q : Exit → Act → World → Prop} {E : Prop} (hgd : o.guard = none) (d s : Operand)
    (ho : o.op = .call { callee := .builtin .copy, args := #[d, s], argTypes := #[31, 31] })
    (base g n c : Nat) (bs : List UInt8) (hown : ownB w base (.slice (some ⟨g, 0, none⟩) n c) bs) (hn : n = bs.length) (p dl dc : Nat) (hd : a.eval d = .slice (some ⟨g, p, none⟩) dl dc)
    (B m sc : Nat) (A : Option Addr) (news : List UInt8) (hs : a.eval s = .slice A m sc) (hr : RdB w B A m news) (hml : m ≤ dl) (hfit : p + m ≤ n)
    (h : ∀ w', ownB w' base (.slice (some ⟨g, 0, none⟩) n c) (splice bs p news) → w.grownBy w' (some g) → K (a.put o.dst (.int .i64 (m : Int))) w') :
    if Region.wanted o (yielded ops a.tmps) = true then Oper.wp Try.prog o a w K Q else E := by
  have hw : Region.wanted o (yielded ops a.tmps) = true := by simp [Region.wanted, hgd]
  rw [if_pos hw]
  have hm := hr.len
  subst hn
  rcases hown.2 with ⟨hv, h0⟩ | ⟨g', cap, cur, hv, hbg, hgg, h1, h2, h3, h4⟩
  · cases hv
  · injection hv with e1 e2 e3
    injection e1 with e1
    injection e1 with e1
    subst e1 e3
    rw [Nat.mul_one] at h3 h4
    have hcl : cur.toList.length = cur.size := by simp
    have hlen : (cb news).length = m := by rw [cb_length, hm]
    have hnc : (cb news).length = Nat.min m dl := by rw [hlen]; exact (Nat.min_eq_left hml).symm
    have fin : ∀ w', w'.heap[g]? = some (.cells (splice cur.toList p (cb news)).toArray 5 (0, 0)) → w.grownBy w' (some g) → ownB w' base (.slice (some ⟨g, 0, none⟩) bs.length c) (splice bs p news) := by
      intro w' hg' _
      refine ⟨by rw [cb_length, splice_len (by omega)]; omega, .inr ⟨g, c, (splice cur.toList p (cb news)).toArray, ?_, hbg, hg', by rw [splice_len (by omega)]; exact h1, h2, ?_, ?_⟩⟩
      · rw [splice_len (by omega)]
      · rw [List.size_toArray, length_splice _ _ _ (by rw [hlen]; omega)]
        simpa using h3
      · rw [Nat.mul_one, splice_len (by omega), cb_splice, ← h4]
        unfold splice
        rw [List.take_append, List.length_take, hlen, Nat.min_eq_left (by omega), List.take_append, hlen, List.take_take, List.take_take, List.drop_take]
        rw [List.take_of_length_le (l := cb news) (by rw [hlen]; omega)]
        rw [Nat.min_eq_right (by omega), Nat.min_eq_left (by omega)]
        congr 3
        omega
    have hgg' : w.heap[g]? = some (.cells cur.toList.toArray 5 (0, 0)) := by simpa using hgg
    by_cases h0 : m = 0
    · have e0 : cb news = [] := List.eq_nil_of_length_eq_zero (by rw [hlen, h0])
      have hrun := run_copy_none (P := Try.prog) w 31 31 o.type 5 (some ⟨g, p, none⟩) A dl dc m sc Try.underlying31 (by kernel_rfl) (by simp [h0])
      unfold Oper.wp
      simp [execOp, ho, resolve, invoke, builtin, hd, hs, hrun, Result.andThen]
      have := h w (fin w (by rw [e0]; simpa [splice] using hgg) (grown_refl _ _)) (grown_refl _ _)
      rw [h0] at this
      exact this
    · obtain ⟨b, o', e, _, hc⟩ := hr.2 (by omega)
      subst e
      have hrun := run_copy_row (P := Try.prog) w 31 31 o.type 5 g p dl dc ⟨b, o', none⟩ m sc cur 5 (cb news) Try.underlying31 (by kernel_rfl) hgg hnc (fun j v hj => by rw [add_none]; exact hc j v hj) (by rw [hlen]; omega) (cb_one _)
      unfold Oper.wp
      simp [execOp, ho, resolve, invoke, builtin, hd, hs, hrun, Result.andThen]
      have h9 : (w.setRow g (splice cur.toList p (cb news)).toArray).heap[g]? = some (.cells (splice cur.toList p (cb news)).toArray 5 (0, 0)) := setRow_heap w g _ _ _ _ hgg
      have := h _ (fin _ h9 (grown_setRow _ _ _)) (grown_setRow _ _ _)
      have e : (Value.int .i64 (m : Int)) = goInt (cb news).length := by rw [hlen]; rfl
      rw [e] at this
      exact this

set_option maxRecDepth 100000 in
set_option maxHeartbeats 3200000 in
theorem cutClo_any (base gt gr g m B n c : Nat) (A : Option Addr) (bs L : List UInt8) (p0 p1 p2 p3 q0 q1 q2 q3 : Value) (at_ in_ nn : Nat) (w : World)
    (hT : ∀ i, w.cell? ⟨gt, i, none⟩ = r5 p0 p1 p2 p3 (.slice (some ⟨g, 0, none⟩) m m) i) (hR : ∀ i, w.cell? ⟨gr, i, none⟩ = r5 q0 q1 q2 q3 (.slice A n c) i)
    (hO : ownB w base (.slice (some ⟨g, 0, none⟩) m m) L) (hm : m = L.length) (hr : RdB w B A n bs) (l1 : n ≤ c) (mx : c ≤ maxLen) (mm : m ≤ 140737488355328) (ln : n ≤ 140737488355328)
    (h1 : 1 ≤ nn) (h2 : in_ + nn ≤ m) (h3 : at_ + nn ≤ n) :
    Calls Try.prog 60 #[.int .i64 at_, .int .i64 in_, .int .i64 nn, .pointer (some ⟨gt, 0, none⟩), .pointer (some ⟨gr, 0, none⟩)] w fun e w' =>
      e = .returned (.tuple #[]) ∧ ownB w' base (.slice (some ⟨g, 0, none⟩) m m) (splice L in_ ((bs.drop at_).take nn)) ∧ w.grownBy w' (some g) := by
  unfold maxLen at mx
  obtain ⟨b, o, rfl, -, -⟩ := hr.at_ (by omega)
  have HR : Hid (RdB w B (some ⟨b, o + at_, none⟩) nn ((bs.drop at_).take nn)) := RdB.cut hr h3 (fun _ => by rw [Option.map_some, add_none])
  have HM := Lib.hid hm
  have b1 : in_ < m := by omega
  have b2 : at_ < c := by omega
  have b3 : ¬ m = in_ := by omega
  have b4 : ¬ c = at_ := by omega
  have b5 : at_ + nn ≤ c := by omega
  have b6 : in_ ≤ in_ + nn := by omega
  have b7 : at_ ≤ at_ + nn := by omega
  have v1 : IntKind.i64.wrap ((in_ : Int) + (nn : Int)) = (in_ : Int) + nn := wrapI _ (by omega) (by omega)
  have v2 : IntKind.i64.wrap ((at_ : Int) + (nn : Int)) = (at_ : Int) + nn := wrapI _ (by omega) (by omega)
  have v3 : (in_ : Int) ≤ (in_ : Int) + nn := by omega
  have v4 : (at_ : Int) ≤ (at_ : Int) + nn := by omega
  have v5 : (in_ : Int) + nn ≤ m := by omega
  have v6 : (at_ : Int) + nn ≤ c := by omega
  have u1 : ((in_ : Int) + nn).toNat - in_ = nn := by omega
  have u2 : ((at_ : Int) + nn).toNat - at_ = nn := by omega
  clear hm hr
  go_enter Try.func60, Try.ntmps60
  go_region_law (refine step_copyG rfl (.tmp 14) (.tmp 21) rfl base g m m L hO HM.out in_ _ _ rfl B nn _ _ _ rfl HR.out (Nat.le_refl _) h2 ?_; intro w4 hz hg4)
  all_goals
    go_end0
    exact ⟨rfl, hz, grown_ofDrew hg4⟩

set_option maxRecDepth 100000 in
set_option maxHeartbeats 3200000 in
theorem joinClo_any (base gt gr g m B n c : Nat) (A : Option Addr) (bs L : List UInt8) (p0 p1 p2 p3 q0 q1 q2 q3 : Value) (at_ in_ nn : Nat) (w : World)
    (hT : ∀ i, w.cell? ⟨gt, i, none⟩ = r5 p0 p1 p2 p3 (.slice (some ⟨g, 0, none⟩) m m) i) (hR : ∀ i, w.cell? ⟨gr, i, none⟩ = r5 q0 q1 q2 q3 (.slice A n c) i)
    (hO : ownB w base (.slice (some ⟨g, 0, none⟩) m m) L) (hm : m = L.length) (hr : RdB w B A n bs) (l1 : n ≤ c) (mx : c ≤ maxLen) (mm : m ≤ 140737488355328) (ln : n ≤ 140737488355328)
    (h1 : 1 ≤ nn) (h2 : in_ + nn ≤ m) (h3 : at_ + nn ≤ n) :
    Calls Try.prog 61 #[.int .i64 in_, .int .i64 at_, .int .i64 nn, .pointer (some ⟨gt, 0, none⟩), .pointer (some ⟨gr, 0, none⟩)] w fun e w' =>
      e = .returned (.tuple #[]) ∧ ownB w' base (.slice (some ⟨g, 0, none⟩) m m) (splice L in_ ((bs.drop at_).take nn)) ∧ w.grownBy w' (some g) := by
  unfold maxLen at mx
  obtain ⟨b, o, rfl, -, -⟩ := hr.at_ (by omega)
  have HR : Hid (RdB w B (some ⟨b, o + at_, none⟩) nn ((bs.drop at_).take nn)) := RdB.cut hr h3 (fun _ => by rw [Option.map_some, add_none])
  have HM := Lib.hid hm
  have b1 : in_ < m := by omega
  have b2 : at_ < c := by omega
  have b3 : ¬ m = in_ := by omega
  have b4 : ¬ c = at_ := by omega
  have b5 : at_ + nn ≤ c := by omega
  have b6 : in_ ≤ in_ + nn := by omega
  have b7 : at_ ≤ at_ + nn := by omega
  have v1 : IntKind.i64.wrap ((in_ : Int) + (nn : Int)) = (in_ : Int) + nn := wrapI _ (by omega) (by omega)
  have v2 : IntKind.i64.wrap ((at_ : Int) + (nn : Int)) = (at_ : Int) + nn := wrapI _ (by omega) (by omega)
  have v3 : (in_ : Int) ≤ (in_ : Int) + nn := by omega
  have v4 : (at_ : Int) ≤ (at_ : Int) + nn := by omega
  have v5 : (in_ : Int) + nn ≤ m := by omega
  have v6 : (at_ : Int) + nn ≤ c := by omega
  have u1 : ((in_ : Int) + nn).toNat - in_ = nn := by omega
  have u2 : ((at_ : Int) + nn).toNat - at_ = nn := by omega
  clear hm hr
  go_enter Try.func61, Try.ntmps61
  go_region_law (refine step_copyG rfl (.tmp 14) (.tmp 21) rfl base g m m L hO HM.out in_ _ _ rfl B nn _ _ _ rfl HR.out (Nat.le_refl _) h2 ?_; intro w4 hz hg4)
  all_goals
    go_end0
    exact ⟨rfl, hz, grown_ofDrew hg4⟩
end Go.Proofs.Ytcgpeijmmongoaa
