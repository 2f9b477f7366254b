/- Merged: Arr, Ref, Kraft, CodeP. -/
import Derived.Test.YteoolehdomjkkaaMb01
/- A variable that is an array: its cells known as a list. -/
namespace Go.Proofs.Yteoolehdomjkkaa
set_option linter.all false
open Go.RowKit

/-- Block g is an array variable that holds cs. -/
def Arr (w : World) (g : Nat) (cs : List Value) : Prop := ∃ t, w.heap[g]? = some (.cells cs.toArray t (0, 0))
section
variable {w w' : World} {g : Nat} {cs : List Value}
theorem Arr.lt (h : Arr w g cs) : g < w.heap.size := by
  obtain ⟨t, h⟩ := h
  exact (Array.getElem?_eq_some_iff.1 h).1
theorem Arr.cell (h : Arr w g cs) {k : Nat} {v : Value} (hk : cs[k]? = some v) : w.cell? ⟨g, k, none⟩ = some v := by
  obtain ⟨t, h⟩ := h
  rw [cell_of_row w g k _ t (0, 0) h]
  simpa using hk
theorem Arr.frozen (h : Arr w g cs) (k : Nat) : w.frozen? ⟨g, k, none⟩ = false := by
  obtain ⟨t, h⟩ := h
  simp [World.frozen?, h]
theorem Arr.set (h : Arr w g cs) (k : Nat) (v : Value) : Arr (w.setCell ⟨g, k, none⟩ v) g (cs.set k v) := by
  obtain ⟨t, h⟩ := h
  refine ⟨t, ?_⟩
  rw [setCell_eq_setRow w g k _ t (0, 0) v h, setRow_heap w g _ _ t (0, 0) h]
  simp
theorem Arr.row (h : Arr w g cs) (ds : List Value) : Arr (w.setRow g ds.toArray) g ds := by
  obtain ⟨t, h⟩ := h
  exact ⟨t, setRow_heap w g _ _ t (0, 0) h⟩
theorem Arr.far (h : Arr w g cs) {p : Addr} (hp : p.block ≠ g) (v : Value) : Arr (w.setCell p v) g cs := by
  obtain ⟨t, h⟩ := h
  refine ⟨t, ?_⟩
  rw [Below.heap_setCell _ _ _ _ (fun e => hp e.symm)]
  exact h
theorem Arr.farRow (h : Arr w g cs) {g' : Nat} (hp : g' ≠ g) (v : Array Value) : Arr (w.setRow g' v) g cs := by
  obtain ⟨t, h⟩ := h
  refine ⟨t, ?_⟩
  rw [setRow_other _ _ _ _ (fun e => hp e.symm)]
  exact h
theorem Arr.drewN (h : Arr w g cs) (k : Nat) : Arr (w.drewN k) g cs := h
theorem Arr.drew (h : Arr w g cs) : Arr w.drew g cs := h
theorem Arr.alloc (h : Arr w g cs) (o : Obj) : Arr (w.alloc o) g cs := by
  have hl := h.lt
  obtain ⟨t, h⟩ := h
  exact ⟨t, (heap_alloc_old w o hl).trans h⟩
theorem Arr.new (w : World) (cs : List Value) (t : TypeId) : Arr (w.alloc (.cells cs.toArray t)) w.heap.size cs := ⟨t, heap_alloc_new w _⟩
theorem Arr.later (h : Arr w g cs) (hb : Below w.heap.size w w') : Arr w' g cs := by
  have hl := h.lt
  obtain ⟨t, h⟩ := h
  exact ⟨t, (hb.block g hl).trans h⟩
theorem Arr.blw {B : Nat} (h : Arr w g cs) (hb : Below B w w') (hg : g < B) : Arr w' g cs := by
  obtain ⟨t, h⟩ := h
  exact ⟨t, (hb.block g hg).trans h⟩
theorem Arr.gro {row : Nat} (h : Arr w g cs) (hb : w.grownBy w' (some row)) (hg : g ≠ row) : Arr w' g cs := by
  have hl := h.lt
  obtain ⟨t, h⟩ := h
  exact ⟨t, (hb.block g hl (fun e => hg (by injection e))).trans h⟩
theorem below_setRow {B : Nat} {a w : World} (h : Below B a w) {g : Nat} (hg : B ≤ g) (cs : Array Value) : Below B a (w.setRow g cs) :=
  h.trans ⟨rfl, rfl, rfl, by simp, fun k hk => setRow_other _ _ _ _ (by omega)⟩
end
theorem step_load_row {P : Program} {w : World} {ops : Array Oper} {o : Oper} {a : Act} {K : Act → World → Prop} {Q : Exit → Act → World → Prop} {E : Prop} (hgd : o.guard = none) (ty : TypeId) (x : Operand) (ho : o.op = .load ty x)
    (g : Nat) (cs : List Value) (hx : a.eval x = .pointer (some ⟨g, 0, none⟩)) (h : Arr w g cs) (d : TypeDesc) (hu : P.underlying ty = some d) (hd : (match d with | .struct _ | .array _ _ => true | _ => false) = true) (hi : (P.info? ty).map (·.size) = some cs.length)
    (hK : K (a.put o.dst (.agg cs.toArray)) w) : if Region.wanted o (yielded ops a.tmps) = true then Oper.wp P o a w K Q else E := by
  have hw : Region.wanted o (yielded ops a.tmps) = true := by simp [Region.wanted, hgd]
  rw [if_pos hw]
  obtain ⟨t, h⟩ := h
  exact wp_load_row ty x ho g hx t _ (0, 0) d h hu hd (by simpa using hi) hK
theorem step_store_row {P : Program} {w : World} {ops : Array Oper} {o : Oper} {a : Act} {K : Act → World → Prop} {Q : Exit → Act → World → Prop} {E : Prop} (hgd : o.guard = none) (ty : TypeId) (x y : Operand) (ho : o.op = .store ty x y)
    (g : Nat) (cs ds : List Value) (hx : a.eval x = .pointer (some ⟨g, 0, none⟩)) (hy : a.eval y = .agg ds.toArray) (h : Arr w g cs) (hi : (P.info? ty).map (·.size) = some ds.length) (hl : cs.length = ds.length) (h1 : ∀ v ∈ ds, v.oneCell' = true)
    (hK : K (a.put o.dst undef) (w.setRow g ds.toArray)) : if Region.wanted o (yielded ops a.tmps) = true then Oper.wp P o a w K Q else E := by
  have hw : Region.wanted o (yielded ops a.tmps) = true := by simp [Region.wanted, hgd]
  rw [if_pos hw]
  obtain ⟨t, h⟩ := h
  exact wp_store_row ty x y ho g ds.toArray hx hy t cs.toArray h (by simpa using hi) (by simpa using hl) (by rw [Array.all_eq_true_iff_forall_mem]; intro v hv; exact h1 v (by simpa using hv)) hK
theorem wpList_storeRow {P : Program} {w : World} {ops : Array Oper} {rest : List Oper} {o : Oper} {a : Act} {Q : Exit → Act → World → Prop} (hgd : o.guard = none) (ty : TypeId) (x y : Operand) (ho : o.op = .store ty x y)
    (g : Nat) (cs ds : List Value) (hx : a.eval x = .pointer (some ⟨g, 0, none⟩)) (hy : a.eval y = .agg ds.toArray) (h : Arr w g cs) (hi : (P.info? ty).map (·.size) = some ds.length) (hl : cs.length = ds.length) (h1 : ∀ v ∈ ds, v.oneCell' = true)
    (hK : wpList P ops Q rest (a.put o.dst undef) (w.setRow g ds.toArray)) : wpList P ops Q (o :: rest) a w := by
  obtain ⟨t, h⟩ := h
  exact wpList_store_row hgd ty x y ho g ds.toArray hx hy t cs.toArray h (by simpa using hi) (by simpa using hl) (by rw [Array.all_eq_true_iff_forall_mem]; intro v hv; exact h1 v (by simpa using hv)) hK
/-- Two results that are arrays. -/
theorem results_cell2 {P : Program} {fn : Func} {p1 p2 : Tmp} {ty1 ty2 : TypeId} (h : fn.results = #[.cell p1 ty1, .cell p2 ty2]) (tmps : Array Value) (w : World) (g1 g2 : Nat) (cs1 cs2 : List Value) (d1 d2 : TypeDesc)
    (hp1 : tmps.getD p1 undef = .pointer (some ⟨g1, 0, none⟩)) (hp2 : tmps.getD p2 undef = .pointer (some ⟨g2, 0, none⟩)) (h1 : Arr w g1 cs1) (h2 : Arr w g2 cs2)
    (hu1 : P.underlying ty1 = some d1) (hd1 : (match d1 with | .struct _ | .array _ _ => true | _ => false) = true) (hi1 : (P.info? ty1).map (·.size) = some cs1.length)
    (hu2 : P.underlying ty2 = some d2) (hd2 : (match d2 with | .struct _ | .array _ _ => true | _ => false) = true) (hi2 : (P.info? ty2).map (·.size) = some cs2.length) :
    (results fn tmps).run P w = .ok (.tuple #[.agg cs1.toArray, .agg cs2.toArray]) w := by
  obtain ⟨t1, h1⟩ := h1
  obtain ⟨t2, h2⟩ := h2
  have hp1' : tmps[p1]?.getD undef = .pointer (some ⟨g1, 0, none⟩) := by simpa using hp1
  have hp2' : tmps[p2]?.getD undef = .pointer (some ⟨g2, 0, none⟩) := by simpa using hp2
  have r1 := run_loadVar_row (P := P) w g1 t1 ty1 cs1.toArray (0, 0) d1 h1 hu1 hd1 (by simpa using hi1)
  have r2 := run_loadVar_row (P := P) w g2 t2 ty2 cs2.toArray (0, 0) d2 h2 hu2 hd2 (by simpa using hi2)
  simp [results, h, hp1', hp2', asAddr, r1, r2]
end Go.Proofs.Yteoolehdomjkkaa

/- The reference's small helpers: a copy of bytes, two lists of bytes held against one another. -/
namespace Go.Proofs.Yteoolehdomjkkaa
set_option linter.all false
open Go.RowKit

/-- CopyBytes. -/
theorem copyB_any (B n c : Nat) (A : Option Addr) (bs : List UInt8) (w : World) (h : RdB w B A n bs) (hm : n ≤ 140737488355328) :
    Calls Try.prog 8 #[.slice A n c] w fun e w' => ∃ v, e = .returned v ∧ ownB w' w.heap.size v bs ∧ Below w.heap.size w w' := by
  go_enter Try.func8, Try.ntmps8
  go_wp2_with (at_builtin; go_loud (refine wpList_appendB rfl (.tmp 3) (.tmp 4) rfl w.heap.size _ [] rfl (own_lit w [] (by simp)) w.heap.size n c A bs rfl (Rd.alloc (Rd.here h) (Nat.le_refl _) _) (by simp; omega) (by simp) ?_); intro v1 w1 hown hg hb hat)
  go_ret
  exact ⟨_, rfl, by simpa using hown, ((Below.refl _ _).alloc (Nat.le_refl _) _).trans hb⟩

/-- Bytes: are two lists of bytes alike? -/
theorem bytes_any (B n c B' n' c' : Nat) (A A' : Option Addr) (xs ys : List UInt8) (w : World) (h : RdB w B A n xs) (h' : RdB w B' A' n' ys) :
    Calls Try.prog 11 #[.slice A n c, .slice A' n' c'] w fun e w' => e = .returned (.bool (xs == ys)) ∧ w = w' := by
  have k1 := run_strB h (c := c)
  have k2 := run_strB h' (c := c')
  go_enter Try.func11, Try.ntmps11
  go_wp2_with fail
  go_ret
  exact ⟨rfl, rfl⟩
end Go.Proofs.Yteoolehdomjkkaa

/- huff: Kraft, the program's and the document's. -/
namespace Go.Proofs.Yteoolehdomjkkaa
set_option linter.all false
open Go.RowKit

def krN (ls : List Int) : Nat := (ls.map fun x => if 0 < x then 2 ^ (15 - x.toNat) else 0).sum
def badL (ls : List Int) : Bool := ls.any fun x => decide (x < 0) || decide (15 < x)
def krE (ls : List Int) : Int := if 300 < ls.length ∨ badL ls = true then 1 else 0
def krV (ls : List Int) : Int := if 300 < ls.length ∨ badL ls = true then 0 else krN ls
theorem krN_snoc {ls : List Int} {k : Nat} {x : Int} (h : ls[k]? = some x) : krN (ls.take (k + 1)) = krN (ls.take k) + if 0 < x then 2 ^ (15 - x.toNat) else 0 := by
  obtain ⟨hk, rfl⟩ := List.getElem?_eq_some_iff.1 h
  rw [List.take_succ_eq_append_getElem hk]
  unfold krN
  rw [List.map_append, List.sum_append]
  simp
theorem badL_snoc {ls : List Int} {k : Nat} {x : Int} (h : ls[k]? = some x) : badL (ls.take (k + 1)) = (badL (ls.take k) || (decide (x < 0) || decide (15 < x))) := by
  obtain ⟨hk, rfl⟩ := List.getElem?_eq_some_iff.1 h
  rw [List.take_succ_eq_append_getElem hk]
  unfold badL
  rw [List.any_append]
  simp
theorem badL_of {ls : List Int} {k : Nat} {x : Int} (h : ls[k]? = some x) (hb : x < 0 ∨ 15 < x) : badL ls = true := by
  unfold badL
  rw [List.any_eq_true]
  exact ⟨x, List.mem_of_getElem? h, by simpa using hb⟩
theorem krN_le (ls : List Int) : krN ls ≤ ls.length * 32768 := by
  unfold krN
  induction ls with
  | nil => simp
  | cons x r ih =>
    simp only [List.map_cons, List.sum_cons, List.length_cons]
    have : (if 0 < x then 2 ^ (15 - x.toNat) else 0) ≤ 32768 := by
      split
      · exact Nat.le_trans (Nat.pow_le_pow_right (by decide) (Nat.sub_le 15 _)) (by decide)
      · omega
    omega
theorem shr15 (t : Nat) (h1 : 1 ≤ t) (h2 : t ≤ 15) : (32768 : Int) / 2 ^ t = ((2 ^ (15 - t) : Nat) : Int) ∧ 2 ^ (15 - t) ≤ 32768 := by
  have : ∀ t, t ≤ 15 → (32768 : Int) / 2 ^ t = ((2 ^ (15 - t) : Nat) : Int) ∧ 2 ^ (15 - t) ≤ 32768 := by decide
  exact this t h2

theorem kr_wrap (q t : Nat) (hq : q ≤ 300 * 32768) (h : 2 ^ (15 - t) ≤ 32768) : wrap64 ((q : Int) + 2 ^ (15 - t)) = ((q + 2 ^ (15 - t) : Nat) : Int) := by
  rw [show ((2 : Int) ^ (15 - t)) = ((2 ^ (15 - t) : Nat) : Int) by push_cast; rfl]
  generalize 2 ^ (15 - t) = u at *
  rw [wrap64_id _ (by omega) (by omega)]
  omega

theorem kr_wrap5 (q t : Nat) (hq : q ≤ 300 * 32768) (h : 2 ^ (15 - t) ≤ 32768) : wrap64 ((q : Int) + wrap64 (2 ^ (15 - t))) = ((q + 2 ^ (15 - t) : Nat) : Int) := by
  have e : wrap64 ((2 : Int) ^ (15 - t)) = 2 ^ (15 - t) := by
    rw [show ((2 : Int) ^ (15 - t)) = ((2 ^ (15 - t) : Nat) : Int) by push_cast; rfl]
    generalize 2 ^ (15 - t) = u at *
    exact wrap64_id _ (by omega) (by omega)
  rw [e]
  exact kr_wrap q t hq h

set_option maxRecDepth 100000 in
set_option maxHeartbeats 1600000 in
theorem kraft_any (B n c : Nat) (A : Option Addr) (ls : List Int) (w : World) (h : RdI w B A n ls) (hn : n ≤ 1099511627776) :
    Calls Try.prog 93 #[.slice A n c] w fun e w' => e = .returned (.tuple #[.int .i64 (krV ls), .int .i64 (krE ls)]) ∧ w = w' := by
  have hl := h.len
  by_cases hgood : n ≤ 300
  · have H := Lib.hid h
    have HL := Lib.hid hl
    clear h hl
    go_enter Try.func93, Try.ntmps93
    go_wp2
    go_loop [12, 4] (fun i p => ∃ k : Nat, k ≤ n ∧ i = .int .i64 k ∧ p = .int .i64 (krN (ls.take k) : Nat) ∧ Hid (badL (ls.take k) = false)) (fun i _ => n - (intOf i).toNat)
    case atStart => exact ⟨0, Nat.zero_le _, rfl, rfl, rfl⟩
    case round =>
      obtain ⟨k, hk, rfl, rfl, HB⟩ := hrel
      have pl : krN (ls.take k) ≤ 300 * 32768 := Nat.le_trans (krN_le _) (Nat.mul_le_mul_right _ (by simp; omega))
      by_cases hlt : k < n
      · obtain ⟨b, o, x, rfl, hb, HX, e1⟩ := H.out.one hlt
        have HP := Lib.hid (krN_snoc HX.out)
        have HQ := Lib.hid (badL_snoc HX.out)
        by_cases hbad : x < 0 ∨ 15 < x
        · have HT : Hid (krV ls = 0 ∧ krE ls = 1) := (show _ ∧ _ by have := badL_of HX.out hbad; unfold krV krE; rw [if_pos (.inr this), if_pos (.inr this)]; exact ⟨rfl, rfl⟩)
          rcases hbad with hx | hx
          · go_wp2
            go_ret2
            exact ⟨ret_tup2 (by rw [HT.out.1]; rfl) (by rw [HT.out.2]; rfl), rfl⟩
          · have hx' : ¬ x < 0 := by omega
            go_wp2
            go_ret2
            exact ⟨ret_tup2 (by rw [HT.out.1]; rfl) (by rw [HT.out.2]; rfl), rfl⟩
        · have hx1 : 0 ≤ x := by omega
          have hx2 : x ≤ 15 := by omega
          have HB2 : Hid (badL (ls.take (k + 1)) = false) := (show _ = _ by rw [HQ.out, HB.out, decide_eq_false (show ¬ x < 0 by omega), decide_eq_false (show ¬ 15 < x by omega)]; rfl)
          clear hbad
          by_cases hp : 0 < x
          · obtain ⟨t, rfl⟩ := Int.eq_ofNat_of_zero_le hx1
            have HP2 : Hid (krN (ls.take (k + 1)) = krN (ls.take k) + 2 ^ (15 - t)) := (show _ = _ by rw [HP.out, if_pos hp]; simp)
            obtain ⟨hs, hs2⟩ := shr15 t (by omega) (by omega)
            generalize krN (ls.take k) = q at *
            have HW := Lib.hid (kr_wrap q t (by omega) hs2)
            clear hs2
            go_wp2
            go_round
            case rel => exact ⟨k + 1, by omega, by go_num, by rw [HP2.out, HW.out], HB2⟩
            case measure => simp [intOf]; omega
          · have HP2 : Hid (krN (ls.take (k + 1)) = krN (ls.take k)) := (show _ = _ by rw [HP.out, if_neg hp]; rfl)
            generalize krN (ls.take k) = q at *
            go_wp2
            go_round
            case rel => exact ⟨k + 1, by omega, by go_num, by rw [HP2.out], HB2⟩
            case measure => simp [intOf]; omega
      · obtain rfl : k = n := by omega
        have HT : Hid (krV ls = krN (ls.take k) ∧ krE ls = 0) := (show _ ∧ _ by
          have e : ls.take k = ls := List.take_of_length_le (by rw [HL.out]; exact Nat.le_refl _)
          have hb := HB.out
          rw [e] at hb ⊢
          have : ¬ (300 < ls.length ∨ badL ls = true) := by
            rw [hb, HL.out]
            rintro (h | h)
            · omega
            · cases h
          unfold krV krE
          rw [if_neg this, if_neg this]
          exact ⟨rfl, rfl⟩)
        generalize krN (ls.take k) = q at *
        go_wp2
        go_ret2
        exact ⟨ret_tup2 (by rw [HT.out.1]; rfl) (by rw [HT.out.2]; rfl), rfl⟩
  · have HT : Hid (krV ls = 0 ∧ krE ls = 1) := (show _ ∧ _ by unfold krV krE; rw [if_pos (.inl (by omega)), if_pos (.inl (by omega))]; exact ⟨rfl, rfl⟩)
    clear h hl
    go_enter Try.func93, Try.ntmps93
    go_wp2
    go_ret2
    exact ⟨ret_tup2 (by rw [HT.out.1]; rfl) (by rw [HT.out.2]; rfl), rfl⟩

set_option maxRecDepth 100000 in
set_option maxHeartbeats 1600000 in
theorem kraft5_any (B n c : Nat) (A : Option Addr) (ls : List Int) (w : World) (h : RdI w B A n ls) (hn : n ≤ 1099511627776) :
    Calls Try.prog 37 #[.slice A n c] w fun e w' => e = .returned (.tuple #[.int .i64 (krV ls), .int .i64 (krE ls)]) ∧ w = w' := by
  have hl := h.len
  by_cases hgood : n ≤ 300
  · have H := Lib.hid h
    have HL := Lib.hid hl
    clear h hl
    go_enter Try.func37, Try.ntmps37
    go_wp2
    go_loop [5, 4] (fun i p => ∃ k : Nat, k ≤ n ∧ i = .int .i64 k ∧ p = .int .i64 (krN (ls.take k) : Nat) ∧ Hid (badL (ls.take k) = false)) (fun i _ => n - (intOf i).toNat)
    case atStart => exact ⟨0, Nat.zero_le _, rfl, rfl, rfl⟩
    case round =>
      obtain ⟨k, hk, rfl, rfl, HB⟩ := hrel
      have pl : krN (ls.take k) ≤ 300 * 32768 := Nat.le_trans (krN_le _) (Nat.mul_le_mul_right _ (by simp; omega))
      by_cases hlt : k < n
      · obtain ⟨b, o, x, rfl, hb, HX, e1⟩ := H.out.one hlt
        have HP := Lib.hid (krN_snoc HX.out)
        have HQ := Lib.hid (badL_snoc HX.out)
        by_cases hbad : x < 0 ∨ 15 < x
        · have HT : Hid (krV ls = 0 ∧ krE ls = 1) := (show _ ∧ _ by have := badL_of HX.out hbad; unfold krV krE; rw [if_pos (.inr this), if_pos (.inr this)]; exact ⟨rfl, rfl⟩)
          rcases hbad with hx | hx
          · go_wp2
            go_ret2
            exact ⟨ret_tup2 (by rw [HT.out.1]; rfl) (by rw [HT.out.2]; rfl), rfl⟩
          · have hx' : ¬ x < 0 := by omega
            go_wp2
            go_ret2
            exact ⟨ret_tup2 (by rw [HT.out.1]; rfl) (by rw [HT.out.2]; rfl), rfl⟩
        · have hx1 : 0 ≤ x := by omega
          have hx2 : x ≤ 15 := by omega
          have HB2 : Hid (badL (ls.take (k + 1)) = false) := (show _ = _ by rw [HQ.out, HB.out, decide_eq_false (show ¬ x < 0 by omega), decide_eq_false (show ¬ 15 < x by omega)]; rfl)
          clear hbad
          by_cases hp : 0 < x
          · obtain ⟨t, rfl⟩ := Int.eq_ofNat_of_zero_le hx1
            have HP2 : Hid (krN (ls.take (k + 1)) = krN (ls.take k) + 2 ^ (15 - t)) := (show _ = _ by rw [HP.out, if_pos hp]; simp)
            obtain ⟨hs, hs2⟩ := shr15 t (by omega) (by omega)
            generalize krN (ls.take k) = q at *
            have HW := Lib.hid (kr_wrap5 q t (by omega) hs2)
            clear hs2
            go_wp2
            go_round
            case rel => exact ⟨k + 1, by omega, by go_num, by rw [HP2.out, HW.out], HB2⟩
            case measure => simp [intOf]; omega
          · have HP2 : Hid (krN (ls.take (k + 1)) = krN (ls.take k)) := (show _ = _ by rw [HP.out, if_neg hp]; rfl)
            generalize krN (ls.take k) = q at *
            go_wp2
            go_round
            case rel => exact ⟨k + 1, by omega, by go_num, by rw [HP2.out], HB2⟩
            case measure => simp [intOf]; omega
      · obtain rfl : k = n := by omega
        have HT : Hid (krV ls = krN (ls.take k) ∧ krE ls = 0) := (show _ ∧ _ by
          have e : ls.take k = ls := List.take_of_length_le (by rw [HL.out]; exact Nat.le_refl _)
          have hb := HB.out
          rw [e] at hb ⊢
          have : ¬ (300 < ls.length ∨ badL ls = true) := by
            rw [hb, HL.out]
            rintro (h | h)
            · omega
            · cases h
          unfold krV krE
          rw [if_neg this, if_neg this]
          exact ⟨rfl, rfl⟩)
        generalize krN (ls.take k) = q at *
        go_wp2
        go_ret2
        exact ⟨ret_tup2 (by rw [HT.out.1]; rfl) (by rw [HT.out.2]; rfl), rfl⟩
  · have HT : Hid (krV ls = 0 ∧ krE ls = 1) := (show _ ∧ _ by unfold krV krE; rw [if_pos (.inl (by omega)), if_pos (.inl (by omega))]; exact ⟨rfl, rfl⟩)
    clear h hl
    go_enter Try.func37, Try.ntmps37
    go_wp2
    go_ret2
    exact ⟨ret_tup2 (by rw [HT.out.1]; rfl) (by rw [HT.out.2]; rfl), rfl⟩
end Go.Proofs.Yteoolehdomjkkaa

/- huff: the first codes of lengths, plainly. -/
namespace Go.Proofs.Yteoolehdomjkkaa
set_option linter.all false

/-- How many lengths are n. -/
def cnt (ls : List Int) (n : Nat) : Nat := ls.count (n : Int)
def cz (ls : List Int) : Nat → Nat
  | 0 => 0
  | n + 1 => cnt ls (n + 1)
/-- The first code of a length. -/
def fst (ls : List Int) : Nat → Nat
  | 0 => 0
  | n + 1 => 2 * (fst ls n + cz ls n)
/-- How much of all codes lengths up to n take. -/
def upto (ls : List Int) : Nat → Nat
  | 0 => 0
  | n + 1 => upto ls n + cnt ls (n + 1) * 2 ^ (15 - (n + 1))
theorem upto_cons (x : Int) (r : List Int) (n : Nat) : upto (x :: r) n = upto r n + if 1 ≤ x ∧ x ≤ n then 2 ^ (15 - x.toNat) else 0 := by
  induction n with
  | zero =>
    rw [if_neg (by omega)]
    rfl
  | succ n ih =>
    rw [upto, upto, ih]
    clear ih
    unfold cnt
    rw [List.count_cons]
    generalize upto r n = a
    generalize r.count ((n + 1 : Nat) : Int) = c
    by_cases h : x = ((n + 1 : Nat) : Int)
    · subst h
      rw [if_neg (show ¬ (1 ≤ ((n + 1 : Nat) : Int) ∧ ((n + 1 : Nat) : Int) ≤ n) by omega), if_pos (show 1 ≤ ((n + 1 : Nat) : Int) ∧ ((n + 1 : Nat) : Int) ≤ ((n + 1 : Nat) : Int) by omega), if_pos (by simp), Nat.add_mul, Int.toNat_natCast]
      omega
    · have hb : (x == ((n + 1 : Nat) : Int)) = false := beq_eq_false_iff_ne.2 h
      rw [hb, if_neg (show ¬ (false = true) by decide), Nat.add_zero]
      by_cases h1 : 1 ≤ x ∧ x ≤ n
      · rw [if_pos h1, if_pos (show 1 ≤ x ∧ x ≤ ((n + 1 : Nat) : Int) by omega)]
        omega
      · rw [if_neg h1, if_neg (show ¬ (1 ≤ x ∧ x ≤ ((n + 1 : Nat) : Int)) by omega)]
        omega
theorem upto_all (ls : List Int) (h : badL ls = false) : upto ls 15 = krN ls := by
  induction ls with
  | nil => rfl
  | cons x r ih =>
    unfold badL at h ih
    rw [List.any_cons, Bool.or_eq_false_iff] at h
    simp only [Bool.or_eq_false_iff, decide_eq_false_iff_not] at h
    rw [upto_cons, ih h.2]
    unfold krN
    rw [List.map_cons, List.sum_cons]
    by_cases hx : 0 < x
    · rw [if_pos (show 1 ≤ x ∧ x ≤ ((15 : Nat) : Int) by omega), if_pos hx]; exact Nat.add_comm _ _
    · rw [if_neg (show ¬ (1 ≤ x ∧ x ≤ ((15 : Nat) : Int)) by omega), if_neg hx]; exact Nat.add_comm _ _
theorem upto_mono (ls : List Int) {m n : Nat} (h : m ≤ n) : upto ls m ≤ upto ls n := by
  induction h with
  | refl => exact Nat.le_refl _
  | step _ ih => rw [upto]; omega
set_option maxRecDepth 10000 in
theorem fst_upto (ls : List Int) : ∀ n, n ≤ 14 → fst ls (n + 1) * 2 ^ (14 - n) = upto ls n := by
  intro n
  induction n with
  | zero => intro _; simp [fst, cz, upto]
  | succ n ih =>
    intro hn
    rw [upto, ← ih (by omega), fst, cz]
    have e : 14 - n = (14 - (n + 1)) + 1 := by omega
    have e2 : 15 - (n + 1) = 14 - n := by omega
    rw [e2, e, Nat.pow_succ]
    generalize 2 ^ (14 - (n + 1)) = u
    generalize fst ls (n + 1) = f
    generalize cnt ls (n + 1) = c
    rw [Nat.mul_comm u 2, ← Nat.mul_assoc, ← Nat.mul_assoc, ← Nat.add_mul]
    congr 1
    omega
theorem fst_all (ls : List Int) (n : Nat) (hn : n ≤ 15) : (fst ls n + cz ls n) * 2 ^ (15 - n) = upto ls n := by
  cases n with
  | zero => simp [fst, cz, upto]
  | succ n =>
    have := fst_upto ls n (by omega)
    rw [upto, ← this, cz, Nat.add_mul, show 15 - (n + 1) = 14 - n by omega]
theorem fst_bound (ls : List Int) (h : badL ls = false) (hk : krN ls ≤ 32768) (n : Nat) (hn : n ≤ 15) : (fst ls n + cz ls n) * 2 ^ (15 - n) ≤ 32768 := by
  rw [fst_all ls n hn]
  exact Nat.le_trans (upto_mono ls hn) (by rw [upto_all ls h]; exact hk)
theorem fst_pow (ls : List Int) (h : badL ls = false) (hk : krN ls ≤ 32768) (n : Nat) (hn : n ≤ 15) : fst ls n + cz ls n ≤ 2 ^ n := by
  have h1 := fst_bound ls h hk n hn
  have h2 : (32768 : Nat) = 2 ^ n * 2 ^ (15 - n) := by rw [← Nat.pow_add, show n + (15 - n) = 15 by omega]
  rw [h2] at h1
  exact Nat.le_of_mul_le_mul_right h1 (Nat.two_pow_pos _)
theorem fst_small (ls : List Int) (h : badL ls = false) (hk : krN ls ≤ 32768) (n : Nat) (hn : n ≤ 15) : fst ls n + cz ls n ≤ 32768 :=
  Nat.le_trans (fst_pow ls h hk n hn) (Nat.pow_le_pow_right (by decide) hn)
/-- The codes of lengths: the i-th one. -/
def codeAt (ls : List Int) (i : Nat) : Nat × Int := if 0 < ls.getD i 0 then (fst ls (ls.getD i 0).toNat + cnt (ls.take i) (ls.getD i 0).toNat, ls.getD i 0) else (0, 0)
def codesL (ls : List Int) : List (Nat × Int) := (List.range ls.length).map (codeAt ls)
end Go.Proofs.Yteoolehdomjkkaa
