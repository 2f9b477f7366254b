/- Merged: Rw1, Rw2, Rw3, RowJ. -/
import Derived.Test.YteoolehdomjkkaaMb15
import Derived.Test.YteoolehdomjkkaaMb01
/- The document's writer of bits: Put, Code. -/
namespace Go.Proofs.Yteoolehdomjkkaa
set_option linter.all false
open Go.RowKit

/-- Bits as bytes. -/
def bitsB (L : List Nat) : List UInt8 := L.map UInt8.ofNat
theorem bitsB_len (L : List Nat) : (bitsB L).length = L.length := by unfold bitsB; simp
theorem bitsB_snoc (L : List Nat) (x : Nat) : bitsB (L ++ [x]) = bitsB L ++ [UInt8.ofNat x] := by unfold bitsB; simp
/-- The document's writer that holds bits. -/
def RWr (w : World) (g : Nat) (pv : Value) (L : List Nat) : Prop := Arr w g [pv] ∧ ownB w (g + 1) pv (bitsB L) ∧ ∀ b ∈ L, b < 2
theorem RWr.drewN {w : World} {g : Nat} {pv : Value} {L : List Nat} (h : RWr w g pv L) (q : Nat) : RWr (w.drewN q) g pv L := ⟨h.1.drewN q, h.2.1.drewN q, h.2.2⟩
theorem RWr.form {w : World} {g : Nat} {pv : Value} {L : List Nat} (h : RWr w g pv L) : ∃ A c, pv = .slice A L.length c := by
  obtain ⟨A, c, e, -, -, -⟩ := h.2.1.form
  rw [bitsB_len] at e
  exact ⟨A, c, e⟩
theorem RWr.pushed {w w3 : World} {g : Nat} {pv v3 : Value} {L : List Nat} {x : Nat} (h : RWr w g pv L) (o : Obj) (hx : x < 2) (hown : ownB w3 (g + 1) v3 (bitsB L ++ [UInt8.ofNat x])) (hgb : (w.alloc o).grownBy w3 pv.ownBlock)
    (hbl : Below (g + 1) (w.alloc o) w3) (hat : v3.ownBlock = pv.ownBlock ∨ v3.ownBlock = some (w.alloc o).heap.size) :
    RWr (w3.setCell ⟨g, 0, none⟩ v3) g v3 (L ++ [x]) ∧ WrFr w (w3.setCell ⟨g, 0, none⟩ v3) g pv v3 := by
  refine ⟨⟨((h.1.alloc o).blw hbl (Nat.lt_succ_self g)).set 0 v3, ?_, fun b hb => ?_⟩, (WrFr.grown o hgb hat).setg 0 v3⟩
  · rw [bitsB_snoc]
    exact ownB.far hown (ownB_ne hown (Nat.lt_succ_self g)) 0 v3
  · rw [List.mem_append] at hb
    rcases hb with hb | hb
    · exact h.2.2 b hb
    · rw [List.mem_singleton] at hb; rw [hb]; exact hx
end Go.Proofs.Yteoolehdomjkkaa

/- The document's writer of bits: Code, Align, Bits, Bytes. -/
namespace Go.Proofs.Yteoolehdomjkkaa
set_option linter.all false
open Go.RowKit

/-- How long the row is that lies in a block's first cell. -/
def slenAt (w : World) (g : Nat) : Nat := match w.cell? ⟨g, 0, none⟩ with
  | some (.slice _ n _) => n
  | _ => 0
theorem slenAt_eq {w : World} {g n c : Nat} {A : Option Addr} (h : w.cell? ⟨g, 0, none⟩ = some (.slice A n c)) : slenAt w g = n := by unfold slenAt; rw [h]
theorem rep_snoc0 (k : Nat) : List.replicate (k + 1) 0 = List.replicate k (0 : Nat) ++ [0] := List.replicate_succ'
end Go.Proofs.Yteoolehdomjkkaa

/- The document's writer of bits: its bytes. -/
namespace Go.Proofs.Yteoolehdomjkkaa
set_option linter.all false
open Go.RowKit

/-- Bytes hold the first k bits. -/
def WBk (bs : List UInt8) (L : List Nat) (k : Nat) : Prop := bs.length = (L.length + 7) / 8 ∧ ∀ p, bitAt bs p = (L.take k).getD p 0
theorem WBk.zero (L : List Nat) : WBk (List.replicate ((L.length + 7) / 8) 0) L 0 := by
  refine ⟨by simp, fun p => ?_⟩
  unfold bitAt
  have e : (List.replicate ((L.length + 7) / 8) (0 : UInt8)).getD (p / 8) 0 = 0 := by
    rw [List.getD_eq_getElem?_getD, List.getElem?_replicate]
    split <;> rfl
  rw [e]
  simp
theorem WBk.all {bs : List UInt8} {L : List Nat} (h : WBk bs L L.length) : WB bs L := ⟨h.1, fun p => by rw [h.2 p, List.take_length]⟩
theorem take_getD {L : List Nat} {k p : Nat} (h : p < k) : (L.take k).getD p 0 = L.getD p 0 := by
  rw [List.getD_eq_getElem?_getD, List.getD_eq_getElem?_getD, List.getElem?_take_of_lt h]
theorem take_getD0 {L : List Nat} {k p : Nat} (h : k ≤ p) : (L.take k).getD p 0 = 0 := by
  rw [List.getD_eq_getElem?_getD, List.getElem?_eq_none (by rw [List.length_take]; omega)]
  rfl
theorem WBk.step {bs : List UInt8} {L : List Nat} {k b : Nat} {x : UInt8} (h : WBk bs L k) (hk : k < L.length) (hb : L[k]? = some b) (hb2 : b < 2) (hx : bs[k / 8]? = some x) :
    WBk (bs.set (k / 8) (UInt8.ofNat (x.toNat ||| b * 2 ^ (k % 8)))) L (k + 1) := by
  have hk8 : k / 8 < bs.length := by have := h.1; omega
  refine ⟨by rw [List.length_set]; exact h.1, fun p => ?_⟩
  have hx0 : x.toNat / 2 ^ (k % 8) % 2 = 0 := by
    have e := h.2 k
    rw [take_getD0 (Nat.le_refl _)] at e
    unfold bitAt at e
    rw [List.getD_eq_getElem?_getD, hx] at e
    exact e
  have hv : (UInt8.ofNat (x.toNat ||| b * 2 ^ (k % 8))).toNat = x.toNat ||| b * 2 ^ (k % 8) := by
    have := or_lt256 x.toNat b (k % 8) x.toNat_lt hb2 (Nat.mod_lt _ (by decide))
    simp only [UInt8.toNat_ofNat']
    exact Nat.mod_eq_of_lt this
  have hbk : L.getD k 0 = b := by rw [List.getD_eq_getElem?_getD, hb]; rfl
  by_cases e : p / 8 = k / 8
  · unfold bitAt
    rw [List.getD_eq_getElem?_getD, List.getElem?_set, if_pos e.symm, if_pos hk8]
    show (UInt8.ofNat _).toNat / 2 ^ (p % 8) % 2 = _
    rw [hv, or_place _ _ _ _ hb2 hx0]
    by_cases e2 : p % 8 = k % 8
    · obtain rfl : p = k := by omega
      rw [if_pos rfl, take_getD (Nat.lt_succ_self p), hbk]
    · rw [if_neg e2]
      have e3 := h.2 p
      unfold bitAt at e3
      rw [List.getD_eq_getElem?_getD, e, hx] at e3
      have e4 : x.toNat / 2 ^ (p % 8) % 2 = (L.take k).getD p 0 := e3
      rw [e4]
      by_cases h5 : p < k
      · rw [take_getD h5, take_getD (by omega)]
      · have : ¬ p = k := fun e => e2 (by rw [e])
        rw [take_getD0 (by omega), take_getD0 (by omega)]
  · have e3 := h.2 p
    have e5 : bitAt (bs.set (k / 8) (UInt8.ofNat (x.toNat ||| b * 2 ^ (k % 8)))) p = bitAt bs p := by
      unfold bitAt
      rw [List.getD_eq_getElem?_getD, List.getD_eq_getElem?_getD, List.getElem?_set, if_neg (fun e' => e e'.symm)]
    rw [e5, e3]
    by_cases h5 : p < k
    · rw [take_getD h5, take_getD (by omega)]
    · have : ¬ p = k := fun e' => e (by rw [e'])
      rw [take_getD0 (by omega), take_getD0 (by omega)]
theorem bitsB_get {L : List Nat} {k : Nat} {x : UInt8} (h : (bitsB L)[k]? = some x) (h2 : ∀ b ∈ L, b < 2) : ∃ b, L[k]? = some b ∧ b < 2 ∧ x.toNat = b := by
  unfold bitsB at h
  rw [List.getElem?_map] at h
  cases hb : L[k]? with
  | none => rw [hb] at h; cases h
  | some b =>
    rw [hb] at h
    have h3 := h2 b (List.mem_of_getElem? hb)
    have h4 : UInt8.ofNat b = x := by injection h
    exact ⟨b, rfl, h3, by rw [← h4, UInt8.toNat_ofNat']; omega⟩
end Go.Proofs.Yteoolehdomjkkaa

/- Rows of aquref5.Token: 3 cells an element. -/
namespace Go.Proofs.Yteoolehdomjkkaa
set_option linter.all false
open Go.RowKit

def eJ (x : (Nat × Nat × Nat)) : List Value := [Value.int .i64 (x.1 : Int), Value.int .i64 (x.2.1 : Int), Value.int .i64 (x.2.2 : Int)]
theorem eJ_len (x : (Nat × Nat × Nat)) : (eJ x).length = 3 := rfl
/-- The cells of a list. -/
def cJ (l : List (Nat × Nat × Nat)) : List Value := l.flatMap eJ
theorem cJ_length : ∀ l : List (Nat × Nat × Nat), (cJ l).length = l.length * 3
  | [] => rfl
  | x :: l => by
    have := cJ_length l
    unfold cJ at this ⊢
    rw [List.flatMap_cons, List.length_append, this, eJ_len, List.length_cons]
    omega
theorem cJ_append (a b : List (Nat × Nat × Nat)) : cJ (a ++ b) = cJ a ++ cJ b := by simp [cJ]
theorem cJ_single (x : (Nat × Nat × Nat)) : cJ [x] = eJ x := by simp [cJ]
theorem cJ_get : ∀ (l : List (Nat × Nat × Nat)) (k j : Nat) (hk : k < l.length), j < 3 → (cJ l)[k * 3 + j]? = (eJ l[k])[j]?
  | x :: l, 0, j, _, hj => by
    unfold cJ
    rw [List.flatMap_cons, List.getElem?_append_left (by rw [eJ_len]; omega)]
    simp
  | x :: l, i + 1, j, hi, hj => by
    have := cJ_get l i j (by simpa using hi) hj
    unfold cJ at this ⊢
    rw [List.flatMap_cons, List.getElem?_append_right (by rw [eJ_len]; omega), eJ_len, List.getElem_cons_succ, ← this]
    congr 1
    omega
theorem cJ_one (l : List (Nat × Nat × Nat)) : ∀ u ∈ cJ l, u.oneCell' = true := by
  intro u hu
  simp only [cJ, List.mem_flatMap] at hu
  obtain ⟨x, _, hx⟩ := hu
  simp only [eJ, List.mem_cons, List.not_mem_nil, or_false] at hx
  rcases hx with rfl | rfl | rfl <;> rfl
theorem cJ_set (l : List (Nat × Nat × Nat)) (k : Nat) (x : (Nat × Nat × Nat)) (hk : k < l.length) : cJ (l.set k x) = (((cJ l).set (k * 3) (Value.int .i64 (x.1 : Int))).set (k * 3 + 1) (Value.int .i64 (x.2.1 : Int))).set (k * 3 + 2) (Value.int .i64 (x.2.2 : Int)) := by
  have e1 : l = l.take k ++ l[k] :: l.drop (k + 1) := by rw [← List.drop_eq_getElem_cons hk, List.take_append_drop]
  have e2 : l.set k x = l.take k ++ x :: l.drop (k + 1) := by rw [List.set_eq_take_append_cons_drop, if_pos hk]
  rw [e2]
  have hl : (cJ (l.take k)).length = k * 3 := by rw [cJ_length, List.length_take, Nat.min_eq_left (by omega)]
  have e3 : cJ l = cJ (l.take k) ++ (eJ l[k] ++ cJ (l.drop (k + 1))) := by
    conv => lhs; rw [e1]
    rw [cJ_append]
    simp only [cJ, List.flatMap_cons]
  have e4 : cJ (l.take k ++ x :: l.drop (k + 1)) = cJ (l.take k) ++ (eJ x ++ cJ (l.drop (k + 1))) := by
    rw [cJ_append]
    simp only [cJ, List.flatMap_cons]
  rw [e3, e4]
  generalize cJ (l.take k) = P at *
  rw [← hl]
  simp [eJ, List.set_append]
def RdJ (w : World) (B : Nat) (A : Option Addr) (n : Nat) (l : List (Nat × Nat × Nat)) : Prop := Rd w B 3 A n (cJ l)
theorem RdJ.len {w : World} {B n : Nat} {A : Option Addr} {l : List (Nat × Nat × Nat)} (h : RdJ w B A n l) : l.length = n := by
  have := h.1; rw [cJ_length] at this; omega
theorem RdJ.one {w : World} {B n : Nat} {A : Option Addr} {l : List (Nat × Nat × Nat)} (h : RdJ w B A n l) {k : Nat} (hk : k < n) :
    ∃ b o x, A = some ⟨b, o, none⟩ ∧ b < B ∧ Hid (l[k]? = some x) ∧ w.cell? ⟨b, o + k * 3, none⟩ = some (Value.int .i64 (x.1 : Int)) ∧ w.cell? ⟨b, o + k * 3 + 1, none⟩ = some (Value.int .i64 (x.2.1 : Int)) ∧ w.cell? ⟨b, o + k * 3 + 2, none⟩ = some (Value.int .i64 (x.2.2 : Int)) := by
  obtain ⟨b, o, e, hb, hc⟩ := h.2 (by omega)
  have hl := h.len
  have hk' : k < l.length := by omega
  refine ⟨b, o, l[k], e, hb, List.getElem?_eq_getElem hk', ?_, ?_, ?_⟩
  · exact hc (k * 3) _ ((cJ_get l k 0 hk' (by omega)).trans rfl)
  · exact hc (k * 3 + 1) _ ((cJ_get l k 1 hk' (by omega)).trans rfl)
  · exact hc (k * 3 + 2) _ ((cJ_get l k 2 hk' (by omega)).trans rfl)
theorem RdJ.blw {w w' : World} {B n : Nat} {A : Option Addr} {l : List (Nat × Nat × Nat)} (h : RdJ w B A n l) (hb : Below B w w') : RdJ w' B A n l := Rd.below h hb
theorem RdJ.more {w : World} {B B' n : Nat} {A : Option Addr} {l : List (Nat × Nat × Nat)} (h : RdJ w B A n l) (hB : B ≤ B') : RdJ w B' A n l := Rd.more h hB
theorem RdJ.here {w : World} {B n : Nat} {A : Option Addr} {l : List (Nat × Nat × Nat)} (h : RdJ w B A n l) : RdJ w w.heap.size A n l :=
  ⟨h.1, fun hn => by
    obtain ⟨b, o, e, hb, hc⟩ := h.2 hn
    have hl := h.1
    exact ⟨b, o, e, block_lt_of_cell (a := ⟨b, o + 0, none⟩) (hc 0 (cJ l)[0] (List.getElem?_eq_getElem (by omega))), hc⟩⟩
theorem RdJ.later {w w' : World} {n : Nat} {A : Option Addr} {l : List (Nat × Nat × Nat)} (h : RdJ w w.heap.size A n l) (hb : Below w.heap.size w w') : RdJ w' w'.heap.size A n l := RdJ.here (RdJ.blw h hb)
theorem RdJ.alloc {w : World} {B n : Nat} {A : Option Addr} {l : List (Nat × Nat × Nat)} (h : RdJ w B A n l) (hB : B ≤ w.heap.size) (o : Obj) : RdJ (w.alloc o) B A n l := Rd.alloc h hB o
theorem RdJ.nil_ {w : World} {B : Nat} {A : Option Addr} : RdJ w B A 0 [] := ⟨by simp [cJ], fun h => absurd h (by omega)⟩
theorem RdJ.cut {w : World} {B n : Nat} {A : Option Addr} {l : List (Nat × Nat × Nat)} (h : RdJ w B A n l) {k m : Nat} (hk : k + m ≤ n) {A' : Option Addr} (hA : 0 < m → A' = A.map (·.add (k * 3))) :
    RdJ w B A' m ((l.drop k).take m) := by
  have := Rd.cut h hk (A' := A') hA
  unfold RdJ
  have e1 : ∀ (q : Nat) (l : List (Nat × Nat × Nat)), cJ (l.take q) = (cJ l).take (q * 3) := fun q l => by
    rcases Nat.lt_or_ge q l.length with hq | hq
    · conv => rhs; rw [← List.take_append_drop q l, cJ_append]
      rw [List.take_left' (by rw [cJ_length, List.length_take, Nat.min_eq_left (by omega)])]
    · rw [List.take_of_length_le hq, List.take_of_length_le (by rw [cJ_length]; exact Nat.mul_le_mul_right _ hq)]
  have e2 : ∀ (q : Nat) (l : List (Nat × Nat × Nat)), cJ (l.drop q) = (cJ l).drop (q * 3) := fun q l => by
    rcases Nat.lt_or_ge q l.length with hq | hq
    · conv => rhs; rw [← List.take_append_drop q l, cJ_append]
      rw [List.drop_left' (by rw [cJ_length, List.length_take, Nat.min_eq_left (by omega)])]
    · rw [List.drop_eq_nil_of_le hq, List.drop_eq_nil_of_le (by rw [cJ_length]; exact Nat.mul_le_mul_right _ hq)]
      rfl
  rw [e1, e2]
  exact this
/-- One element that lies in a block, whole. -/
theorem rd_oneJ (w : World) (x : (Nat × Nat × Nat)) (t : TypeId) (fr : Nat × Nat) : RdJ (w.alloc (.cells (eJ x).toArray t fr)) (w.heap.size + 1) (some ⟨w.heap.size, 0, none⟩) 1 [x] := by
  refine ⟨by rw [cJ_length]; rfl, fun _ => ⟨_, _, rfl, by omega, fun j u hu => ?_⟩⟩
  rw [Nat.zero_add]
  have := cell_of_row (w.alloc (.cells (eJ x).toArray t fr)) w.heap.size j (eJ x).toArray t fr (heap_alloc_new w _)
  rw [this]
  rw [cJ_single] at hu
  simpa using hu

end Go.Proofs.Yteoolehdomjkkaa
