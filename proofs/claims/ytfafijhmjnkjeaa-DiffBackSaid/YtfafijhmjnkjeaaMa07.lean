/- Merged: Huff3. -/
import Derived.Test.YtfafijhmjnkjeaaMa06
/- huff: merged. -/
namespace Go.Proofs.Ytfafijhmjnkjeaa
set_option linter.all false
open Go.RowKit

theorem mrgBy_nil {α : Type} {wt : α → Int} (a b : List α) (h : a = [] ∨ b = []) : mrgBy wt a b = a ++ b := by
  rcases h with rfl | rfl
  · rw [mrgBy, List.nil_append]
  · cases a with
    | nil => rw [mrgBy, List.nil_append]
    | cons x r => rw [mrgBy, List.append_nil]
theorem mrgBy_lt {α : Type} {wt : α → Int} {x y : α} {r s : List α} (h : wt y < wt x) : mrgBy wt (x :: r) (y :: s) = y :: mrgBy wt (x :: r) s := by rw [mrgBy, if_pos h]
theorem mrgBy_ge {α : Type} {wt : α → Int} {x y : α} {r s : List α} (h : ¬ wt y < wt x) : mrgBy wt (x :: r) (y :: s) = x :: mrgBy wt r (y :: s) := by rw [mrgBy, if_neg h]
theorem mrgBy_len {α : Type} {wt : α → Int} (a b : List α) : (mrgBy wt a b).length = a.length + b.length := by
  fun_induction mrgBy wt a b with
  | case1 => simp
  | case2 => simp
  | case3 _ _ _ _ _ ih => simp [ih]; omega
  | case4 _ _ _ _ _ ih => simp [ih]; omega
theorem mrgBy_mem {α : Type} {wt : α → Int} (a b : List α) (z : α) : z ∈ mrgBy wt a b ↔ z ∈ a ∨ z ∈ b := by
  fun_induction mrgBy wt a b with
  | case1 => simp
  | case2 => simp
  | case3 _ _ _ _ _ ih => grind
  | case4 _ _ _ _ _ ih => grind
theorem mrgBy_map {α β : Type} (f : α → β) (wt : β → Int) (a b : List α) : (mrgBy (fun x => wt (f x)) a b).map f = mrgBy wt (a.map f) (b.map f) := by
  fun_induction mrgBy (fun x => wt (f x)) a b with
  | case1 => simp [mrgBy]
  | case2 => simp [mrgBy]
  | case3 _ _ _ _ h ih => rw [List.map_cons, ih, List.map_cons, List.map_cons, mrgBy_lt h] <;> rfl
  | case4 _ _ _ _ h ih => rw [List.map_cons, ih, List.map_cons, List.map_cons, mrgBy_ge h] <;> rfl
def slen : Value → Nat
  | .slice _ k _ => k
  | _ => 0
theorem slen_slice (A : Option Addr) (k c : Nat) : slen (.slice A k c) = k := rfl
theorem rdp_any {w : World} {B n : Nat} {A A' : Option Addr} {zs : List MP} (h : RdP w B A n zs) (hn : n = 0) : RdP w B A' n zs := by
  subst hn
  have : zs = [] := List.eq_nil_of_length_eq_zero h.len
  subst this
  exact RdP.nil_
/-- The first element of a slice, and the rest. -/
theorem RdP.uncons {w : World} {B n : Nat} {A : Option Addr} {zs : List MP} (h : RdP w B A n zs) (hn : 0 < n) : ∃ b o z r, A = some ⟨b, o, none⟩ ∧ b < B ∧ zs = z :: r ∧ w.cell? ⟨b, o, none⟩ = some (.pointer (some ⟨z.1, 0, none⟩)) ∧ RdP w B (some ⟨b, o + 1, none⟩) (n - 1) r := by
  obtain ⟨b, o, z, rfl, hb, HX, e⟩ := h.one hn
  have hl := h.len
  cases zs with
  | nil => simp at hl; omega
  | cons z' r =>
    have : z' = z := by have := HX; simpa [Hid] using this
    subst this
    have hr := h.cut (k := 1) (m := n - 1) (by omega) (A' := some ⟨b, o + 1, none⟩) (fun _ => by simp [add_none])
    simp at hl
    rw [List.drop_one, List.tail_cons, List.take_of_length_le (by omega)] at hr
    exact ⟨b, o, z', r, rfl, hb, rfl, e, hr⟩

set_option maxRecDepth 100000 in
set_option maxHeartbeats 3200000 in
theorem merged_any (S : Nat → Prop) (B n m ca cb : Nat) (A A' : Option Addr) (zs1 zs2 : List MP) (w : World) (h1 : RdP w B A n zs1) (h2 : RdP w B A' m zs2) (hnc : n ≤ ca) (hmc : m ≤ cb) (hca : ca ≤ maxLen) (hcb : cb ≤ maxLen) (hB1 : B ≤ w.heap.size) (hn : n + m ≤ 1099511627776)
    (hM : ∀ z, z ∈ zs1 ∨ z ∈ zs2 → w.cell? ⟨z.1, 0, none⟩ = some (.int .i64 z.2.w)) :
    Calls Try.prog 105 #[.slice A n ca, .slice A' m cb] w fun e w' => ∃ A' n' c' zs', e = .returned (.slice A' n' c') ∧ n' = zs'.length ∧ ownP w' w.heap.size (.slice A' n' c') zs' ∧
      zs' = mrgBy mw zs1 zs2 ∧ Below w.heap.size w w' := by
  have hB := Below.refl w.heap.size w
  have H1 := Lib.hid h1
  have H2 := Lib.hid h2
  have HM := Lib.hid hM
  unfold maxLen at hca hcb
  clear h1 h2 hM
  go_enter Try.func105, Try.ntmps105
  go_wp2
  go_loopw [0, 1, 5] (fun va vb v wr => ∃ (A1 A2 : Option Addr) (n1 n2 c1 c2 : Nat) (as_ bs out : List MP), va = .slice A1 n1 c1 ∧ vb = .slice A2 n2 c2 ∧ n1 ≤ c1 ∧ n2 ≤ c2 ∧ c1 ≤ 2 ^ 63 - 1 ∧ c2 ≤ 2 ^ 63 - 1 ∧ out.length + n1 + n2 ≤ n + m ∧ Hid (RdP w B A1 n1 as_) ∧ Hid (RdP w B A2 n2 bs) ∧
      Hid (∀ z, z ∈ as_ ∨ z ∈ bs → z ∈ zs1 ∨ z ∈ zs2) ∧ Hid (out ++ mrgBy mw as_ bs = mrgBy mw zs1 zs2) ∧ Hid (ownP wr w.heap.size v out) ∧ Below w.heap.size w wr)
    (fun va vb _ _ => slen va + slen vb)
  case atStart => exact ⟨A, A', n, m, ca, cb, zs1, zs2, [], rfl, rfl, hnc, hmc, hca, hcb, by simp, H1, H2, (show ∀ z, _ from fun z h => h), rfl, ownP.nil_ _ _, hB⟩
  case round =>
    clear hB
    obtain ⟨A1, A2, n1, n2, c1, c2, as_, bs, out, rfl, rfl, l1, l2, l3, l4, hsum, R1, R2, HS, HZ, HO, hB⟩ := hrel
    have hsz := hB.size
    by_cases hlt : 0 < n1 ∧ 0 < n2
    · obtain ⟨g1, g2⟩ := hlt
      obtain ⟨b, o, x, at_, rfl, hb, rfl, e1, R1'⟩ := R1.out.uncons g1
      obtain ⟨b', o', y, bt, rfl, hb', rfl, e2, R2'⟩ := R2.out.uncons g2
      have f1 : wr.cell? ⟨b, o, none⟩ = some (.pointer (some ⟨x.1, 0, none⟩)) := (hB.cell (p := ⟨b, o, none⟩) (by show b < _; omega)).trans e1
      have f2 : wr.cell? ⟨b', o', none⟩ = some (.pointer (some ⟨y.1, 0, none⟩)) := (hB.cell (p := ⟨b', o', none⟩) (by show b' < _; omega)).trans e2
      have wx0 := HM.out x (HS.out x (by simp))
      have wy0 := HM.out y (HS.out y (by simp))
      have wx : wr.cell? ⟨x.1, 0, none⟩ = some (.int .i64 x.2.w) := (hB.cell (p := ⟨x.1, 0, none⟩) (block_lt_of_cell (a := ⟨x.1, 0, none⟩) wx0)).trans wx0
      have wy : wr.cell? ⟨y.1, 0, none⟩ = some (.int .i64 y.2.w) := (hB.cell (p := ⟨y.1, 0, none⟩) (block_lt_of_cell (a := ⟨y.1, 0, none⟩) wy0)).trans wy0
      have HR1 := Lib.hid R1'
      have HR2 := Lib.hid R2'
      have d1 : decide ((n1 : Int) > 0) = true := decide_eq_true (by omega)
      have d2 : decide ((n2 : Int) > 0) = true := decide_eq_true (by omega)
      clear e1 e2 wx0 wy0 R1' R2'
      by_cases hlt : y.2.w < x.2.w
      · have HZ2 : Hid ((out ++ [y]) ++ mrgBy mw (x :: at_) bt = mrgBy mw zs1 zs2) := (show _ = _ by rw [← HZ.out, mrgBy_lt (wt := mw) hlt]; simp)
        have HBB := Lib.hid (fun k : Nat => (bdrewN hB (k + 1)).alloc (o := .cells #[.pointer (some ⟨y.1, 0, none⟩)] 165) hsz)
        go_wp2_with fail
        go_quiet (fail)
        by_cases hc : c2 = 1
        · obtain rfl : n2 = 1 := by omega
          subst hc
          go_wp2_with fail
          go_region_law (go_must (refine step_appendP rfl (.tmp 27) (.tmp 31) rfl w.heap.size u5 out rfl ((ownP.drewN HO.out (nq + 1)).alloc _) _ 1 1 _ [y] rfl (rd_oneP (wr.drewN (nq + 1)) y) (by omega) (by simp; omega) ?_; intro v' w2 ho hg hb2 hv; have HO2 := Lib.hid ho; have HB2 := Lib.hid hb2; clear ho hg hb2 hv))
          all_goals
            go_simp
            go_wp2_with fail
            go_roundw
            case rel => exact ⟨some ⟨b, o, none⟩, some ⟨b', o', none⟩, n1, 0, c1, 0, x :: at_, bt, out ++ [y], rfl, rfl, l1, by omega, l3, by omega, by simp; omega, R1, (show RdP _ _ _ _ _ from rdp_any HR2.out (by omega)), (show ∀ z, _ from fun z hz => HS.out z (by rcases hz with hz | hz <;> simp_all)), HZ2, HO2, (HBB.out nq).trans HB2.out⟩
            case measure => simp only [slen_slice]; omega
        · have k1 : (1 : Int) ≤ (n2 : Int) := by omega
          go_wp2_with fail
          go_region_law (go_must (refine step_appendP rfl (.tmp 27) (.tmp 31) rfl w.heap.size u5 out rfl ((ownP.drewN HO.out (nq + 1)).alloc _) _ 1 1 _ [y] rfl (rd_oneP (wr.drewN (nq + 1)) y) (by omega) (by simp; omega) ?_; intro v' w2 ho hg hb2 hv; have HO2 := Lib.hid ho; have HB2 := Lib.hid hb2; clear ho hg hb2 hv))
          all_goals
            go_simp
            go_wp2_with fail
            go_roundw
            case rel => exact ⟨some ⟨b, o, none⟩, some ⟨b', o' + 1, none⟩, n1, n2 - 1, c1, c2 - 1, x :: at_, bt, out ++ [y], rfl, rfl, l1, by omega, l3, by omega, by simp; omega, R1, HR2, (show ∀ z, _ from fun z hz => HS.out z (by rcases hz with hz | hz <;> simp_all)), HZ2, HO2, (HBB.out nq).trans HB2.out⟩
            case measure => simp only [slen_slice]; omega
      · have HZ2 : Hid ((out ++ [x]) ++ mrgBy mw at_ (y :: bt) = mrgBy mw zs1 zs2) := (show _ = _ by rw [← HZ.out, mrgBy_ge (wt := mw) hlt]; simp)
        have HBB := Lib.hid (fun k : Nat => (bdrewN hB (k + 1)).alloc (o := .cells #[.pointer (some ⟨x.1, 0, none⟩)] 165) hsz)
        go_wp2_with fail
        go_quiet (fail)
        by_cases hc : c1 = 1
        · obtain rfl : n1 = 1 := by omega
          subst hc
          go_wp2_with fail
          go_region_law (go_must (refine step_appendP rfl (.tmp 35) (.tmp 39) rfl w.heap.size u5 out rfl ((ownP.drewN HO.out (nq + 1)).alloc _) _ 1 1 _ [x] rfl (rd_oneP (wr.drewN (nq + 1)) x) (by omega) (by simp; omega) ?_; intro v' w2 ho hg hb2 hv; have HO2 := Lib.hid ho; have HB2 := Lib.hid hb2; clear ho hg hb2 hv))
          all_goals
            go_simp
            go_wp2_with fail
            go_roundw
            case rel => exact ⟨some ⟨b, o, none⟩, some ⟨b', o', none⟩, 0, n2, 0, c2, at_, y :: bt, out ++ [x], rfl, rfl, by omega, l2, by omega, l4, by simp; omega, (show RdP _ _ _ _ _ from rdp_any HR1.out (by omega)), R2, (show ∀ z, _ from fun z hz => HS.out z (by rcases hz with hz | hz <;> simp_all)), HZ2, HO2, (HBB.out nq).trans HB2.out⟩
            case measure => simp only [slen_slice]; omega
        · have k1 : (1 : Int) ≤ (n1 : Int) := by omega
          go_wp2_with fail
          go_region_law (go_must (refine step_appendP rfl (.tmp 35) (.tmp 39) rfl w.heap.size u5 out rfl ((ownP.drewN HO.out (nq + 1)).alloc _) _ 1 1 _ [x] rfl (rd_oneP (wr.drewN (nq + 1)) x) (by omega) (by simp; omega) ?_; intro v' w2 ho hg hb2 hv; have HO2 := Lib.hid ho; have HB2 := Lib.hid hb2; clear ho hg hb2 hv))
          all_goals
            go_simp
            go_wp2_with fail
            go_roundw
            case rel => exact ⟨some ⟨b, o + 1, none⟩, some ⟨b', o', none⟩, n1 - 1, n2, c1 - 1, c2, at_, y :: bt, out ++ [x], rfl, rfl, by omega, l2, by omega, l4, by simp; omega, HR1, R2, (show ∀ z, _ from fun z hz => HS.out z (by rcases hz with hz | hz <;> simp_all)), HZ2, HO2, (HBB.out nq).trans HB2.out⟩
            case measure => simp only [slen_slice]; omega
    · have HE : Hid (out ++ as_ ++ bs = mrgBy mw zs1 zs2) := (show _ = _ by
        rw [← HZ.out, mrgBy_nil]
        · simp
        · have h1 := R1.out.len
          have h2 := R2.out.len
          by_cases hh : 0 < n1
          · exact .inr (List.eq_nil_of_length_eq_zero (by omega))
          · exact .inl (List.eq_nil_of_length_eq_zero (by omega)))
      have L1 := Lib.hid R1.out.len
      have L2 := Lib.hid R2.out.len
      by_cases g1 : 0 < n1 <;> by_cases g2 : 0 < n2 <;> (first | (exfalso; omega) | skip)
      all_goals
        go_wp2_with (first
          | (at_builtin; (refine wpList_appendP rfl (.tmp 43) (.tmp 44) rfl w.heap.size u5 out rfl HO.out B n1 c1 A1 as_ rfl (R1.out.blw (hB.mono hB1)) (by omega) hsz ?_; intro v' w2 ho hg hb2 hv; have HO2 := Lib.hid ho; have HB2 := Lib.hid (hB.trans hb2); clear ho hg hb2 hv))
          | (at_builtin; (refine wpList_appendP rfl (.tmp 45) (.tmp 46) rfl w.heap.size v' (out ++ as_) rfl HO2.out B n2 c2 A2 bs rfl (R2.out.blw (HB2.out.mono hB1)) (by have := L1.out; simp; omega) HB2.out.size ?_; intro v4 w4 ho hg hb2 hv; have HO4 := Lib.hid ho; have HB4 := Lib.hid (HB2.out.trans hb2); clear ho hg hb2 hv)))
        obtain ⟨A9, c9, rfl, h91, h92, h93⟩ := HO4.out.form
        go_ret
        exact ⟨A9, _, c9, _, rfl, rfl, HO4.out, HE.out, HB4.out⟩
end Go.Proofs.Ytfafijhmjnkjeaa
