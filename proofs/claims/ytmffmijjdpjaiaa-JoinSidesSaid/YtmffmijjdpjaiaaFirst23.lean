/- join: what the examples fix: the trees. -/
import Derived.Test.YtmffmijjdpjaiaaInv
import Derived.Test.YtmffmijjdpjaiaaDiffer
namespace Go.Proofs.Ytmffmijjdpjaiaa
set_option linter.all false
open Go.RowKit

def kS : ByteArray := { data := #[98, 97, 55, 56, 49, 54, 98, 102, 56, 102, 48, 49, 99, 102, 101, 97, 52, 49, 52, 49, 52, 48, 100, 101, 53, 100, 97, 101, 50, 50, 50, 51, 98, 48, 48, 51, 54, 49, 97, 51, 57, 54, 49, 55, 55, 97, 57, 99, 98, 52, 49, 48, 102, 102, 54, 49, 102, 50, 48, 48, 49, 53, 97, 100] }
def kT : ByteArray := { data := #[97, 55, 56, 49, 54, 98, 102, 56, 102, 48, 49, 99, 102, 101, 97, 52, 49, 52, 49, 52, 48, 100, 101, 53, 100, 97, 101, 50, 50, 50, 51, 98, 48, 48, 51, 54, 49, 97, 51, 57, 54, 49, 55, 55, 97, 57, 99, 98, 52, 49, 48, 102, 102, 54, 49, 102, 50, 48, 48, 49, 53, 97, 100] }
def k1 : ByteArray := { data := #[49, 97, 55, 56, 49, 54, 98, 102, 56, 102, 48, 49, 99, 102, 101, 97, 52, 49, 52, 49, 52, 48, 100, 101, 53, 100, 97, 101, 50, 50, 50, 51, 98, 48, 48, 51, 54, 49, 97, 51, 57, 54, 49, 55, 55, 97, 57, 99, 98, 52, 49, 48, 102, 102, 54, 49, 102, 50, 48, 48, 49, 53, 97, 100] }
def k2 : ByteArray := { data := #[50, 97, 55, 56, 49, 54, 98, 102, 56, 102, 48, 49, 99, 102, 101, 97, 52, 49, 52, 49, 52, 48, 100, 101, 53, 100, 97, 101, 50, 50, 50, 51, 98, 48, 48, 51, 54, 49, 97, 51, 57, 54, 49, 55, 55, 97, 57, 99, 98, 52, 49, 48, 102, 102, 54, 49, 102, 50, 48, 48, 49, 53, 97, 100] }

def fInv (H : Nat) (w0 : World) (f : Nat → Bool) (a : Act) (w : World) : Prop :=
  ∃ (c g : Nat → Nat) (v : Nat → Value), a = ⟨#[.bool false, .string kS, .pointer (some ⟨H, 0, none⟩), v 3, v 4, v 5, undef, undef, undef, .agg #[.int .i64 1, .int .i64 1, .int .i64 1, .int .i64 8], v 10, v 11, v 12, v 13, v 14, v 15, v 16, v 17, v 18, v 19, v 20, v 21, v 22, v 23, v 24, v 25, undef, undef, undef, undef, undef, undef, undef, undef, undef, undef, undef, undef, undef, undef, undef, undef, undef, undef, undef, undef, undef, undef, undef, undef, undef, undef, undef, undef, undef, undef, undef], []⟩ ∧
    (f 0 = true → v 10 = .agg #[.int .i64 1, .int .i64 1, .int .i64 1, .int .i64 8]) ∧
    (f 1 = true → v 11 = .string kS) ∧
    (f 2 = true → v 12 = .slice (some ⟨g 0, 0, none⟩) 1 1 ∧ H < g 0 ∧ w.heap[g 0]? = some (.cells #[.string kS] 9 (0, 0))) ∧
    (f 3 = true → v 13 = .agg #[.int .i64 1, .int .i64 1, .int .i64 1, .int .i64 8, .slice (some ⟨g 0, 0, none⟩) 1 1]) ∧
    (f 4 = true → v 14 = .agg #[.int .i64 1, .int .i64 1, .int .i64 1, .int .i64 8]) ∧
    (f 5 = true → v 15 = .string kS) ∧
    (f 6 = true → v 16 = .string kT) ∧
    (f 7 = true → v 17 = .string k1) ∧
    (f 8 = true → v 18 = .slice (some ⟨g 1, 0, none⟩) 1 1 ∧ H < g 1 ∧ w.heap[g 1]? = some (.cells #[.string k1] 9 (0, 0))) ∧
    (f 9 = true → v 19 = .agg #[.int .i64 1, .int .i64 1, .int .i64 1, .int .i64 8, .slice (some ⟨g 1, 0, none⟩) 1 1]) ∧
    (f 10 = true → v 20 = .agg #[.int .i64 1, .int .i64 1, .int .i64 1, .int .i64 8]) ∧
    (f 11 = true → v 21 = .string kS) ∧
    (f 12 = true → v 22 = .string kT) ∧
    (f 13 = true → v 23 = .string k2) ∧
    (f 14 = true → v 24 = .slice (some ⟨g 2, 0, none⟩) 1 1 ∧ H < g 2 ∧ w.heap[g 2]? = some (.cells #[.string k2] 9 (0, 0))) ∧
    (f 15 = true → v 25 = .agg #[.int .i64 1, .int .i64 1, .int .i64 1, .int .i64 8, .slice (some ⟨g 2, 0, none⟩) 1 1]) ∧
    (f 16 = true → v 3 = .pointer (some ⟨c 0, 0, none⟩) ∧ H < c 0 ∧ c 0 < w.heap.size ∧ (∀ i, w.frozen? ⟨c 0, i, none⟩ = false) ∧ (f 19 = false → ∀ i, w.cell? ⟨c 0, i, none⟩ = r5 (.int .i64 0) (.int .i64 0) (.int .i64 0) (.int .i64 0) (.slice none 0 0) i)) ∧
    (f 17 = true → v 4 = .pointer (some ⟨c 1, 0, none⟩) ∧ H < c 1 ∧ c 1 < w.heap.size ∧ (∀ i, w.frozen? ⟨c 1, i, none⟩ = false) ∧ (f 20 = false → ∀ i, w.cell? ⟨c 1, i, none⟩ = r5 (.int .i64 0) (.int .i64 0) (.int .i64 0) (.int .i64 0) (.slice none 0 0) i)) ∧
    (f 18 = true → v 5 = .pointer (some ⟨c 2, 0, none⟩) ∧ H < c 2 ∧ c 2 < w.heap.size ∧ (∀ i, w.frozen? ⟨c 2, i, none⟩ = false) ∧ (f 21 = false → ∀ i, w.cell? ⟨c 2, i, none⟩ = r5 (.int .i64 0) (.int .i64 0) (.int .i64 0) (.int .i64 0) (.slice none 0 0) i)) ∧
    (f 19 = true → ∀ i, w.cell? ⟨c 0, i, none⟩ = r5 (.int .i64 1) (.int .i64 1) (.int .i64 1) (.int .i64 8) (.slice (some ⟨g 0, 0, none⟩) 1 1) i) ∧
    (f 20 = true → ∀ i, w.cell? ⟨c 1, i, none⟩ = r5 (.int .i64 1) (.int .i64 1) (.int .i64 1) (.int .i64 8) (.slice (some ⟨g 1, 0, none⟩) 1 1) i) ∧
    (f 21 = true → ∀ i, w.cell? ⟨c 2, i, none⟩ = r5 (.int .i64 1) (.int .i64 1) (.int .i64 1) (.int .i64 8) (.slice (some ⟨g 2, 0, none⟩) 1 1) i) ∧
    (f 16 = true → f 17 = true → c 0 ≠ c 1) ∧
    (f 16 = true → f 18 = true → c 0 ≠ c 2) ∧
    (f 17 = true → f 18 = true → c 1 ≠ c 2) ∧
    (f 3 = true → f 2 = true) ∧
    (f 19 = true → f 16 = true ∧ f 3 = true) ∧
    (f 9 = true → f 8 = true) ∧
    (f 20 = true → f 17 = true ∧ f 9 = true) ∧
    (f 15 = true → f 14 = true) ∧
    (f 21 = true → f 18 = true ∧ f 15 = true) ∧
    (∀ i, w.cell? ⟨H, i, none⟩ = s4 (.int .i64 1) (.int .i64 1) (.int .i64 1) (.int .i64 8) i) ∧ Below H w0 w

theorem heap_alloc_old {w : World} {g : Nat} {o o' : Obj} (h : w.heap[g]? = some o) : (w.alloc o').heap[g]? = some o := by
  have hl := (Array.getElem?_eq_some_iff.1 h).1
  rw [← h]
  exact (Below.alloc (Below.refl w.heap.size w) (Nat.le_refl _) o').block g hl
theorem heap_lt {w : World} {g : Nat} {o : Obj} (h : w.heap[g]? = some o) : g < w.heap.size := (Array.getElem?_eq_some_iff.1 h).1
theorem heap_set5 {w : World} {g c : Nat} {o : Obj} (h : w.heap[g]? = some o) (hne : g ≠ c) (v0 v1 v2 v3 v4 : Value) :
    (((((w.setCell ⟨c, 0, none⟩ v0).setCell ⟨c, 1, none⟩ v1).setCell ⟨c, 2, none⟩ v2).setCell ⟨c, 3, none⟩ v3).setCell ⟨c, 4, none⟩ v4).heap[g]? = some o := by
  have e : ∀ (w : World) (i : Nat) (v : Value), (w.setCell ⟨c, i, none⟩ v).heap[g]? = w.heap[g]? := fun w i v => Below.heap_setCell w ⟨c, i, none⟩ v g hne
  rw [e, e, e, e, e]
  exact h
theorem cell_one {w : World} {g : Nat} {x : Value} {t : TypeId} {fr : Nat × Nat} (h : w.heap[g]? = some (.cells #[x] t fr)) : w.cell? ⟨g, 4, none⟩ = none := by
  rw [cell_of_row w g 4 #[x] t fr h]
  rfl
theorem one_ne {w : World} {g c : Nat} {x : Value} {t : TypeId} {fr : Nat × Nat} {a0 a1 a2 a3 a4 : Value} (h : w.heap[g]? = some (.cells #[x] t fr)) (hc : ∀ i, w.cell? ⟨c, i, none⟩ = r5 a0 a1 a2 a3 a4 i) : g ≠ c := by
  intro e
  subst e
  have := hc 4
  rw [cell_one h] at this
  cases this
theorem alloc_fz {w : World} {c : Nat} (hl : c < w.heap.size) (h : ∀ i, w.frozen? ⟨c, i, none⟩ = false) (o : Obj) : ∀ i, (w.alloc o).frozen? ⟨c, i, none⟩ = false := keptFA hl h o
theorem new_fz (w : World) (cs : Array Value) (t : TypeId) : ∀ i, (w.alloc (.cells cs t)).frozen? ⟨w.heap.size, i, none⟩ = false := fun i => by
  unfold World.frozen?
  rw [heap_alloc_new]
  simp

def keyRel (w : World) (q3 q4 q5 : Value) (wc : World) : Prop :=
  ∃ c0 c1 c2 g0 g1 g2 : Nat, q3 = .pointer (some ⟨c0, 0, none⟩) ∧ q4 = .pointer (some ⟨c1, 0, none⟩) ∧ q5 = .pointer (some ⟨c2, 0, none⟩) ∧
    (∀ i, wc.cell? ⟨c0, i, none⟩ = r5 (.int .i64 1) (.int .i64 1) (.int .i64 1) (.int .i64 8) (.slice (some ⟨g0, 0, none⟩) 1 1) i) ∧
    (∀ i, wc.cell? ⟨c1, i, none⟩ = r5 (.int .i64 1) (.int .i64 1) (.int .i64 1) (.int .i64 8) (.slice (some ⟨g1, 0, none⟩) 1 1) i) ∧
    (∀ i, wc.cell? ⟨c2, i, none⟩ = r5 (.int .i64 1) (.int .i64 1) (.int .i64 1) (.int .i64 8) (.slice (some ⟨g2, 0, none⟩) 1 1) i) ∧
    RdT wc wc.heap.size (some ⟨g0, 0, none⟩) 1 [kS] ∧ RdT wc wc.heap.size (some ⟨g1, 0, none⟩) 1 [k1] ∧ RdT wc wc.heap.size (some ⟨g2, 0, none⟩) 1 [k2] ∧ Below w.heap.size w wc
theorem rd_blk {w : World} {g : Nat} {x : ByteArray} {t : TypeId} {fr : Nat × Nat} (h : w.heap[g]? = some (.cells #[.string x] t fr)) : RdT w w.heap.size (some ⟨g, 0, none⟩) 1 [x] := by
  refine ⟨rfl, fun _ => ⟨g, 0, rfl, heap_lt h, fun j u hu => ?_⟩⟩
  rw [Nat.zero_add, cell_of_row w g j #[.string x] t fr h]
  simpa [cT] using hu
theorem cell_drew {w : World} {p : Addr} {v : Value} (h : w.cell? p = some v) : w.drew.cell? p = some v := h
theorem cell_alloc {w : World} {b i : Nat} {v : Value} (h : w.cell? ⟨b, i, none⟩ = some v) (o : Obj) : (w.alloc o).cell? ⟨b, i, none⟩ = some v := (World.cell?_alloc_lt w o _ (block_lt_of_cell (a := ⟨b, i, none⟩) h)).trans h
theorem cell_below {w w' : World} {b i : Nat} {v : Value} (hb : Below w.heap.size w w') (h : w.cell? ⟨b, i, none⟩ = some v) : w'.cell? ⟨b, i, none⟩ = some v := (hb.cell (p := ⟨b, i, none⟩) (block_lt_of_cell (a := ⟨b, i, none⟩) h)).trans h
theorem dK_ : (k1.toList == (({ data := #[49] } : ByteArray) ++ kS.extract 1 64).toList) = true := by rw [beq_iff_eq, Lib.toList_data, Lib.toList_data]; kernel_rfl
theorem kS_size : kS.size = 64 := by kernel_rfl
theorem k1_size : k1.size = 64 := by kernel_rfl
theorem k2_size : k2.size = 64 := by kernel_rfl
theorem upK_k : upK [kS] [k1] [k2] 1 = [k1] := by kernel_rfl
theorem upM_k : upM [kS] [k1] [k2] 1 = [true] := by kernel_rfl
theorem shortK (x : ByteArray) (h : x.size ≤ 64) : shortT [x] := by
  intro y hy
  rw [List.mem_singleton] at hy
  subst hy
  omega
theorem one_max : 1 ≤ maxLen := by unfold maxLen; omega
theorem bools_tt (B B' : Nat) (A A' : Option Addr) (w : World) (h : RdL w B A 1 [true]) (h' : RdL w B' A' 1 [true]) : Calls Try.prog 10 #[.slice A 1 1, .slice A' 1 1] w fun e w' => e = .returned (.bool true) ∧ Below w.heap.size w w' :=
  (bools_any B 1 1 B' 1 1 A A' [true] [true] w h h' (by omega)).mono fun e w' ⟨a, b⟩ => ⟨by rw [a]; simp, b⟩
theorem mayK0 : mayT ⟨1, 1, 1, 8⟩ [kS] = true := by kernel_rfl
theorem mayK1 : mayT ⟨1, 1, 1, 8⟩ [k1] = true := by kernel_rfl
theorem mayK2 : mayT ⟨1, 1, 1, 8⟩ [k2] = true := by kernel_rfl
theorem wrongK (A A' A'' : Option Addr) : wrongT [⟨⟨1, 1, 1, 8⟩, A, 1, 1, [kS]⟩, ⟨⟨1, 1, 1, 8⟩, A', 1, 1, [k1]⟩, ⟨⟨1, 1, 1, 8⟩, A'', 1, 1, [k2]⟩] = 0 := by
  unfold wrongT Tr.may
  simp [mayK0, mayK1, mayK2]

set_option maxRecDepth 100000 in
set_option maxHeartbeats 12800000 in
theorem first23_any (w : World) : Calls Try.prog 7 #[] w fun e w' => e = .returned (.bool true) ∧ Below w.heap.size w w' := by
  obtain ⟨H, hH⟩ : ∃ H, H = w.heap.size := ⟨_, rfl⟩
  have hks := kS_size
  go_enter Try.func7, Try.ntmps7
  go_upto_region 3 with (fail)
  go_cut [1, 3, 4, 5] (fun q1 q3 q4 q5 wc => q1 = .string kS ∧ keyRel w q3 q4 q5 wc)
  case rest =>
    obtain ⟨rfl, c0, c1, c2, g0, g1, g2, rfl, rfl, rfl, b0, b1, b2, r0, r1, r2, hB⟩ := hcut
    have HM := Lib.hid (fun (w' : World) (h : Below wc.heap.size wc w') => merge_ok ⟨⟨1, 1, 1, 8⟩, some ⟨g0, 0, none⟩, 1, 1, [kS]⟩ ⟨⟨1, 1, 1, 8⟩, some ⟨g1, 0, none⟩, 1, 1, [k1]⟩ ⟨⟨1, 1, 1, 8⟩, some ⟨g2, 0, none⟩, 1, 1, [k2]⟩ wc.heap.size w' ⟨r0.blw h, Nat.le_refl _, one_max, shortK _ (Nat.le_of_eq kS_size)⟩ ⟨r1.blw h, Nat.le_refl _, one_max, shortK _ (Nat.le_of_eq k1_size)⟩ ⟨r2.blw h, Nat.le_refl _, one_max, shortK _ (Nat.le_of_eq k2_size)⟩ h.size (wrongK _ _ _))
    clear r0 r1 r2
    dsimp only [Sh.r] at HM
    rw [upK_k, upM_k] at HM
    have dK := dK_
    go_upto_region 5 with (go_at_call 9; (with_reducible refine (HM.out _ (Below.refl _ _)).mono ?_); go_must (rintro e w1 ⟨m1, q1, m2, rfl, hne, ho, hl, hb1⟩; replace hB := bstep hB hb1 (Nat.le_refl _); have HO := Lib.hid ho; have HL := Lib.hid hl.rd; have hlm := World.ownsRow.lt ho m1 rfl; clear hb1 ho hl))
    have hc : w1.cell? ⟨m1, 0, none⟩ = some (.string k1) := HO.out.cell rfl (by simp)
    have cX := new5 w1 (.int .i64 1) (.int .i64 1) (.int .i64 1) (.int .i64 8) (.slice (some ⟨m1, 0, none⟩) 1 q1) 26 (0, 0)
    have cY : (w1.alloc (.cells #[.int .i64 1, .int .i64 1, .int .i64 1, .int .i64 8, .slice (some ⟨m1, 0, none⟩) 1 q1] 26)).cell? ⟨m1, 0, none⟩ = some (.string k1) := (World.cell?_alloc_lt w1 _ _ hlm.2).trans hc
    obtain ⟨W, hW⟩ : ∃ W, W = (w1.alloc (.cells #[.int .i64 1, .int .i64 1, .int .i64 1, .int .i64 8, .slice (some ⟨m1, 0, none⟩) 1 q1] 26)) := ⟨_, rfl⟩
    have hWs : W.heap.size = w1.heap.size + 1 := by rw [hW, World.size_alloc]
    have hBW : Below w.heap.size w W := by rw [hW]; exact bal hB _
    have hl2 : RdL (W.alloc (.cells #[.bool true] 4)).drew w1.heap.size (some ⟨m2, 0, none⟩) 1 [true] := (RdL.alloc (w := W) (by rw [hW]; exact HL.out.alloc (Nat.le_refl _) _) (by omega) _)
    have ht2 : RdL (W.alloc (.cells #[.bool true] 4)).drew (w1.heap.size + 1 + 1) (some ⟨w1.heap.size + 1, 0, none⟩) 1 [true] := by
      have := rd_oneL W true
      rwa [hWs] at this
    have HBO := Lib.hid (bools_tt _ _ _ _ _ hl2 ht2)
    have HBW := Lib.hid (show Below w.heap.size w (W.alloc (.cells #[.bool true] 4)).drew from (bal hBW _).drew)
    rw [hW] at HBO HBW
    clear hl2 ht2 hWs hBW hW
    clear hc b0 b1 b2
    go_region_held3 (fun w' => (∀ i, w'.cell? ⟨w1.heap.size, i, none⟩ = r5 (.int .i64 1) (.int .i64 1) (.int .i64 1) (.int .i64 8) (.slice (some ⟨m1, 0, none⟩) 1 q1) i) ∧ w'.cell? ⟨m1, 0, none⟩ = some (.string k1))
      (first | (with_reducible exact ⟨cX, cY⟩) | (refine ⟨?_, ?_⟩ <;> (repeat (first | with_reducible exact cX | with_reducible exact cY | (with_reducible refine kD5 ?_) | (with_reducible refine kA5 ?_ _) | (with_reducible refine cell_drew ?_) | (with_reducible refine cell_alloc ?_ _) | (with_reducible refine kX5 hb3 ?_) | (with_reducible refine cell_below hb3 ?_)))))
      (first | (go_at_call 10; (with_reducible refine HBO.out.mono ?_); go_must (rintro e w3 ⟨rfl, hb3⟩)))
    all_goals
      go_wp2_with fail
      go_ret
      exact ⟨rfl, bstep HBW.out hb3 (Nat.le_refl _)⟩
  case first =>
  rw [← hH]
  have HH := Lib.hid hH
  clear hH
  refine wp_region_inv2 (by kernel_rfl) (by kernel_rfl) (fInv H w) ?_ ?_ ?_
  · refine ⟨fun _ => 0, fun _ => 0, fun _ => undef, rfl, (fun h => by cases h), (fun h => by cases h), (fun h => by cases h), (fun h => by cases h), (fun h => by cases h), (fun h => by cases h), (fun h => by cases h), (fun h => by cases h), (fun h => by cases h), (fun h => by cases h), (fun h => by cases h), (fun h => by cases h), (fun h => by cases h), (fun h => by cases h), (fun h => by cases h), (fun h => by cases h), (fun h => by cases h), (fun h => by cases h), (fun h => by cases h), (fun h => by cases h), (fun h => by cases h), (fun h => by cases h), (fun h => by cases h), (fun h => by cases h), (fun h => by cases h), (fun h => by cases h), (fun h => by cases h), (fun h => by cases h), (fun h => by cases h), (fun h => by cases h), (fun h => by cases h), ?_, ?_⟩
    · rw [HH.out]; exact new4 w _ _ _ _ _ _
    · rw [HH.out]; exact Below.drew ((Below.refl w.heap.size w).alloc (Nat.le_refl _) _)
  · intro f a w i hi0 hf he hI
    have hi : i < 22 := hi0
    clear hi0
    obtain ⟨c, g, v, rfl, p0, p1, p2, p3, p4, p5, p6, p7, p8, p9, p10, p11, p12, p13, p14, p15, p16, p17, p18, p19, p20, p21, q01, q02, q12, d3, d19, d9, d20, d15, d21, hbox, hB⟩ := hI
    replace p0 := Lib.hid p0
    replace p1 := Lib.hid p1
    replace p2 := Lib.hid p2
    replace p3 := Lib.hid p3
    replace p4 := Lib.hid p4
    replace p5 := Lib.hid p5
    replace p6 := Lib.hid p6
    replace p7 := Lib.hid p7
    replace p8 := Lib.hid p8
    replace p9 := Lib.hid p9
    replace p10 := Lib.hid p10
    replace p11 := Lib.hid p11
    replace p12 := Lib.hid p12
    replace p13 := Lib.hid p13
    replace p14 := Lib.hid p14
    replace p15 := Lib.hid p15
    replace p16 := Lib.hid p16
    replace p17 := Lib.hid p17
    replace p18 := Lib.hid p18
    replace p19 := Lib.hid p19
    replace p20 := Lib.hid p20
    replace p21 := Lib.hid p21
    replace q01 := Lib.hid q01
    replace q02 := Lib.hid q02
    replace q12 := Lib.hid q12
    replace d3 := Lib.hid d3
    replace d19 := Lib.hid d19
    replace d9 := Lib.hid d9
    replace d20 := Lib.hid d20
    replace d15 := Lib.hid d15
    replace d21 := Lib.hid d21
    have hHs : H < w.heap.size := ltOf hbox rfl
    have hi' : i = 0 ∨ i = 1 ∨ i = 2 ∨ i = 3 ∨ i = 4 ∨ i = 5 ∨ i = 6 ∨ i = 7 ∨ i = 8 ∨ i = 9 ∨ i = 10 ∨ i = 11 ∨ i = 12 ∨ i = 13 ∨ i = 14 ∨ i = 15 ∨ i = 16 ∨ i = 17 ∨ i = 18 ∨ i = 19 ∨ i = 20 ∨ i = 21 := by omega
    clear hi
    rcases hi' with rfl | rfl | rfl | rfl | rfl | rfl | rfl | rfl | rfl | rfl | rfl | rfl | rfl | rfl | rfl | rfl | rfl | rfl | rfl | rfl | rfl | rfl
    · clear he
      refine wpOp_plainK rfl rfl (fun K HK => ?_)
      skip
      go_simp
      exact HK.out _ _ ⟨c, g, (fun k => if k = 10 then .agg #[.int .i64 1, .int .i64 1, .int .i64 1, .int .i64 8] else v k), rfl, fun _ => rfl, p1.out, p2.out, p3.out, p4.out, p5.out, p6.out, p7.out, p8.out, p9.out, p10.out, p11.out, p12.out, p13.out, p14.out, p15.out, p16.out, p17.out, p18.out, p19.out, p20.out, p21.out, q01.out, q02.out, q12.out, d3.out, d19.out, d9.out, d20.out, d15.out, d21.out, hbox, hB⟩
    · clear he
      refine wpOp_plainK rfl rfl (fun K HK => ?_)
      skip
      go_simp
      exact HK.out _ _ ⟨c, g, (fun k => if k = 11 then .string kS else v k), rfl, p0.out, fun _ => rfl, p2.out, p3.out, p4.out, p5.out, p6.out, p7.out, p8.out, p9.out, p10.out, p11.out, p12.out, p13.out, p14.out, p15.out, p16.out, p17.out, p18.out, p19.out, p20.out, p21.out, q01.out, q02.out, q12.out, d3.out, d19.out, d9.out, d20.out, d15.out, d21.out, hbox, hB⟩
    · have f1 : f 1 = true := he 1 (by kernel_rfl)
      have r1 := p1.out f1
      clear he
      refine wpOp_plainK rfl rfl (fun K HK => ?_)
      rw [r1]
      clear r1
      go_simp
      exact HK.out _ _ ⟨c, (fun k => if k = 0 then w.heap.size else g k), (fun k => if k = 12 then .slice (some ⟨w.heap.size, 0, none⟩) 1 1 else (fun k => if k = 11 then .string kS else v k) k), rfl, p0.out, fun _ => rfl, fun _ => ⟨rfl, hHs, heap_alloc_new w _⟩, fun h => absurd (d3.out h) (by rw [hf]; decide), p4.out, p5.out, p6.out, p7.out, fun h => ⟨(p8.out h).1, (p8.out h).2.1, heap_alloc_old (p8.out h).2.2⟩, p9.out, p10.out, p11.out, p12.out, p13.out, fun h => ⟨(p14.out h).1, (p14.out h).2.1, heap_alloc_old (p14.out h).2.2⟩, p15.out, fun h => ⟨(p16.out h).1, (p16.out h).2.1, (by rw [World.size_alloc]; exact Nat.lt_succ_of_lt (p16.out h).2.2.1), alloc_fz (p16.out h).2.2.1 (p16.out h).2.2.2.1 _, fun h2 => kA5 ((p16.out h).2.2.2.2 h2) _⟩, fun h => ⟨(p17.out h).1, (p17.out h).2.1, (by rw [World.size_alloc]; exact Nat.lt_succ_of_lt (p17.out h).2.2.1), alloc_fz (p17.out h).2.2.1 (p17.out h).2.2.2.1 _, fun h2 => kA5 ((p17.out h).2.2.2.2 h2) _⟩, fun h => ⟨(p18.out h).1, (p18.out h).2.1, (by rw [World.size_alloc]; exact Nat.lt_succ_of_lt (p18.out h).2.2.1), alloc_fz (p18.out h).2.2.1 (p18.out h).2.2.2.1 _, fun h2 => kA5 ((p18.out h).2.2.2.2 h2) _⟩, fun h => absurd (d3.out (d19.out h).2) (by rw [hf]; decide), fun h => kA5 (p20.out h) _, fun h => kA5 (p21.out h) _, q01.out, q02.out, q12.out, fun _ => rfl, d19.out, d9.out, d20.out, d15.out, d21.out, kA4 hbox _, Below.alloc hB (Nat.le_of_lt hHs) _⟩
    · have f0 : f 0 = true := he 0 (by kernel_rfl)
      have f2 : f 2 = true := he 2 (by kernel_rfl)
      have r0 := p0.out f0
      have r2 := p2.out f2
      clear he
      refine wpOp_plainK rfl rfl (fun K HK => ?_)
      rw [r0, r2.1]
      clear r0 r2
      go_simp
      exact HK.out _ _ ⟨c, g, (fun k => if k = 13 then .agg #[.int .i64 1, .int .i64 1, .int .i64 1, .int .i64 8, .slice (some ⟨g 0, 0, none⟩) 1 1] else (fun k => if k = 12 then .slice (some ⟨g 0, 0, none⟩) 1 1 else (fun k => if k = 10 then .agg #[.int .i64 1, .int .i64 1, .int .i64 1, .int .i64 8] else v k) k) k), rfl, fun _ => rfl, p1.out, fun h => ⟨rfl, (p2.out h).2⟩, fun _ => rfl, p4.out, p5.out, p6.out, p7.out, p8.out, p9.out, p10.out, p11.out, p12.out, p13.out, p14.out, p15.out, p16.out, p17.out, p18.out, p19.out, p20.out, p21.out, q01.out, q02.out, q12.out, fun _ => f2, fun h => ⟨(d19.out h).1, rfl⟩, d9.out, d20.out, d15.out, d21.out, hbox, hB⟩
    · clear he
      refine wpOp_plainK rfl rfl (fun K HK => ?_)
      skip
      go_simp
      exact HK.out _ _ ⟨c, g, (fun k => if k = 14 then .agg #[.int .i64 1, .int .i64 1, .int .i64 1, .int .i64 8] else v k), rfl, p0.out, p1.out, p2.out, p3.out, fun _ => rfl, p5.out, p6.out, p7.out, p8.out, p9.out, p10.out, p11.out, p12.out, p13.out, p14.out, p15.out, p16.out, p17.out, p18.out, p19.out, p20.out, p21.out, q01.out, q02.out, q12.out, d3.out, d19.out, d9.out, d20.out, d15.out, d21.out, hbox, hB⟩
    · clear he
      refine wpOp_plainK rfl rfl (fun K HK => ?_)
      skip
      go_simp
      exact HK.out _ _ ⟨c, g, (fun k => if k = 15 then .string kS else v k), rfl, p0.out, p1.out, p2.out, p3.out, p4.out, fun _ => rfl, p6.out, p7.out, p8.out, p9.out, p10.out, p11.out, p12.out, p13.out, p14.out, p15.out, p16.out, p17.out, p18.out, p19.out, p20.out, p21.out, q01.out, q02.out, q12.out, d3.out, d19.out, d9.out, d20.out, d15.out, d21.out, hbox, hB⟩
    · have f5 : f 5 = true := he 5 (by kernel_rfl)
      have r5 := p5.out f5
      clear he
      refine wpOp_plainK rfl rfl (fun K HK => ?_)
      rw [r5]
      clear r5
      go_simp
      exact HK.out _ _ ⟨c, g, (fun k => if k = 16 then .string kT else (fun k => if k = 15 then .string kS else v k) k), rfl, p0.out, p1.out, p2.out, p3.out, p4.out, fun _ => rfl, fun _ => rfl, p7.out, p8.out, p9.out, p10.out, p11.out, p12.out, p13.out, p14.out, p15.out, p16.out, p17.out, p18.out, p19.out, p20.out, p21.out, q01.out, q02.out, q12.out, d3.out, d19.out, d9.out, d20.out, d15.out, d21.out, hbox, hB⟩
    · have f6 : f 6 = true := he 6 (by kernel_rfl)
      have r6 := p6.out f6
      clear he
      refine wpOp_plainK rfl rfl (fun K HK => ?_)
      rw [r6]
      clear r6
      go_simp
      exact HK.out _ _ ⟨c, g, (fun k => if k = 17 then .string k1 else (fun k => if k = 16 then .string kT else v k) k), rfl, p0.out, p1.out, p2.out, p3.out, p4.out, p5.out, fun _ => rfl, fun _ => rfl, p8.out, p9.out, p10.out, p11.out, p12.out, p13.out, p14.out, p15.out, p16.out, p17.out, p18.out, p19.out, p20.out, p21.out, q01.out, q02.out, q12.out, d3.out, d19.out, d9.out, d20.out, d15.out, d21.out, hbox, hB⟩
    · have f7 : f 7 = true := he 7 (by kernel_rfl)
      have r7 := p7.out f7
      clear he
      refine wpOp_plainK rfl rfl (fun K HK => ?_)
      rw [r7]
      clear r7
      go_simp
      exact HK.out _ _ ⟨c, (fun k => if k = 1 then w.heap.size else g k), (fun k => if k = 18 then .slice (some ⟨w.heap.size, 0, none⟩) 1 1 else (fun k => if k = 17 then .string k1 else v k) k), rfl, p0.out, p1.out, fun h => ⟨(p2.out h).1, (p2.out h).2.1, heap_alloc_old (p2.out h).2.2⟩, p3.out, p4.out, p5.out, p6.out, fun _ => rfl, fun _ => ⟨rfl, hHs, heap_alloc_new w _⟩, fun h => absurd (d9.out h) (by rw [hf]; decide), p10.out, p11.out, p12.out, p13.out, fun h => ⟨(p14.out h).1, (p14.out h).2.1, heap_alloc_old (p14.out h).2.2⟩, p15.out, fun h => ⟨(p16.out h).1, (p16.out h).2.1, (by rw [World.size_alloc]; exact Nat.lt_succ_of_lt (p16.out h).2.2.1), alloc_fz (p16.out h).2.2.1 (p16.out h).2.2.2.1 _, fun h2 => kA5 ((p16.out h).2.2.2.2 h2) _⟩, fun h => ⟨(p17.out h).1, (p17.out h).2.1, (by rw [World.size_alloc]; exact Nat.lt_succ_of_lt (p17.out h).2.2.1), alloc_fz (p17.out h).2.2.1 (p17.out h).2.2.2.1 _, fun h2 => kA5 ((p17.out h).2.2.2.2 h2) _⟩, fun h => ⟨(p18.out h).1, (p18.out h).2.1, (by rw [World.size_alloc]; exact Nat.lt_succ_of_lt (p18.out h).2.2.1), alloc_fz (p18.out h).2.2.1 (p18.out h).2.2.2.1 _, fun h2 => kA5 ((p18.out h).2.2.2.2 h2) _⟩, fun h => kA5 (p19.out h) _, fun h => absurd (d9.out (d20.out h).2) (by rw [hf]; decide), fun h => kA5 (p21.out h) _, q01.out, q02.out, q12.out, d3.out, d19.out, fun _ => rfl, d20.out, d15.out, d21.out, kA4 hbox _, Below.alloc hB (Nat.le_of_lt hHs) _⟩
    · have f4 : f 4 = true := he 4 (by kernel_rfl)
      have f8 : f 8 = true := he 8 (by kernel_rfl)
      have r4 := p4.out f4
      have r8 := p8.out f8
      clear he
      refine wpOp_plainK rfl rfl (fun K HK => ?_)
      rw [r4, r8.1]
      clear r4 r8
      go_simp
      exact HK.out _ _ ⟨c, g, (fun k => if k = 19 then .agg #[.int .i64 1, .int .i64 1, .int .i64 1, .int .i64 8, .slice (some ⟨g 1, 0, none⟩) 1 1] else (fun k => if k = 18 then .slice (some ⟨g 1, 0, none⟩) 1 1 else (fun k => if k = 14 then .agg #[.int .i64 1, .int .i64 1, .int .i64 1, .int .i64 8] else v k) k) k), rfl, p0.out, p1.out, p2.out, p3.out, fun _ => rfl, p5.out, p6.out, p7.out, fun h => ⟨rfl, (p8.out h).2⟩, fun _ => rfl, p10.out, p11.out, p12.out, p13.out, p14.out, p15.out, p16.out, p17.out, p18.out, p19.out, p20.out, p21.out, q01.out, q02.out, q12.out, d3.out, d19.out, fun _ => f8, fun h => ⟨(d20.out h).1, rfl⟩, d15.out, d21.out, hbox, hB⟩
    · clear he
      refine wpOp_plainK rfl rfl (fun K HK => ?_)
      skip
      go_simp
      exact HK.out _ _ ⟨c, g, (fun k => if k = 20 then .agg #[.int .i64 1, .int .i64 1, .int .i64 1, .int .i64 8] else v k), rfl, p0.out, p1.out, p2.out, p3.out, p4.out, p5.out, p6.out, p7.out, p8.out, p9.out, fun _ => rfl, p11.out, p12.out, p13.out, p14.out, p15.out, p16.out, p17.out, p18.out, p19.out, p20.out, p21.out, q01.out, q02.out, q12.out, d3.out, d19.out, d9.out, d20.out, d15.out, d21.out, hbox, hB⟩
    · clear he
      refine wpOp_plainK rfl rfl (fun K HK => ?_)
      skip
      go_simp
      exact HK.out _ _ ⟨c, g, (fun k => if k = 21 then .string kS else v k), rfl, p0.out, p1.out, p2.out, p3.out, p4.out, p5.out, p6.out, p7.out, p8.out, p9.out, p10.out, fun _ => rfl, p12.out, p13.out, p14.out, p15.out, p16.out, p17.out, p18.out, p19.out, p20.out, p21.out, q01.out, q02.out, q12.out, d3.out, d19.out, d9.out, d20.out, d15.out, d21.out, hbox, hB⟩
    · have f11 : f 11 = true := he 11 (by kernel_rfl)
      have r11 := p11.out f11
      clear he
      refine wpOp_plainK rfl rfl (fun K HK => ?_)
      rw [r11]
      clear r11
      go_simp
      exact HK.out _ _ ⟨c, g, (fun k => if k = 22 then .string kT else (fun k => if k = 21 then .string kS else v k) k), rfl, p0.out, p1.out, p2.out, p3.out, p4.out, p5.out, p6.out, p7.out, p8.out, p9.out, p10.out, fun _ => rfl, fun _ => rfl, p13.out, p14.out, p15.out, p16.out, p17.out, p18.out, p19.out, p20.out, p21.out, q01.out, q02.out, q12.out, d3.out, d19.out, d9.out, d20.out, d15.out, d21.out, hbox, hB⟩
    · have f12 : f 12 = true := he 12 (by kernel_rfl)
      have r12 := p12.out f12
      clear he
      refine wpOp_plainK rfl rfl (fun K HK => ?_)
      rw [r12]
      clear r12
      go_simp
      exact HK.out _ _ ⟨c, g, (fun k => if k = 23 then .string k2 else (fun k => if k = 22 then .string kT else v k) k), rfl, p0.out, p1.out, p2.out, p3.out, p4.out, p5.out, p6.out, p7.out, p8.out, p9.out, p10.out, p11.out, fun _ => rfl, fun _ => rfl, p14.out, p15.out, p16.out, p17.out, p18.out, p19.out, p20.out, p21.out, q01.out, q02.out, q12.out, d3.out, d19.out, d9.out, d20.out, d15.out, d21.out, hbox, hB⟩
    · have f13 : f 13 = true := he 13 (by kernel_rfl)
      have r13 := p13.out f13
      clear he
      refine wpOp_plainK rfl rfl (fun K HK => ?_)
      rw [r13]
      clear r13
      go_simp
      exact HK.out _ _ ⟨c, (fun k => if k = 2 then w.heap.size else g k), (fun k => if k = 24 then .slice (some ⟨w.heap.size, 0, none⟩) 1 1 else (fun k => if k = 23 then .string k2 else v k) k), rfl, p0.out, p1.out, fun h => ⟨(p2.out h).1, (p2.out h).2.1, heap_alloc_old (p2.out h).2.2⟩, p3.out, p4.out, p5.out, p6.out, p7.out, fun h => ⟨(p8.out h).1, (p8.out h).2.1, heap_alloc_old (p8.out h).2.2⟩, p9.out, p10.out, p11.out, p12.out, fun _ => rfl, fun _ => ⟨rfl, hHs, heap_alloc_new w _⟩, fun h => absurd (d15.out h) (by rw [hf]; decide), fun h => ⟨(p16.out h).1, (p16.out h).2.1, (by rw [World.size_alloc]; exact Nat.lt_succ_of_lt (p16.out h).2.2.1), alloc_fz (p16.out h).2.2.1 (p16.out h).2.2.2.1 _, fun h2 => kA5 ((p16.out h).2.2.2.2 h2) _⟩, fun h => ⟨(p17.out h).1, (p17.out h).2.1, (by rw [World.size_alloc]; exact Nat.lt_succ_of_lt (p17.out h).2.2.1), alloc_fz (p17.out h).2.2.1 (p17.out h).2.2.2.1 _, fun h2 => kA5 ((p17.out h).2.2.2.2 h2) _⟩, fun h => ⟨(p18.out h).1, (p18.out h).2.1, (by rw [World.size_alloc]; exact Nat.lt_succ_of_lt (p18.out h).2.2.1), alloc_fz (p18.out h).2.2.1 (p18.out h).2.2.2.1 _, fun h2 => kA5 ((p18.out h).2.2.2.2 h2) _⟩, fun h => kA5 (p19.out h) _, fun h => kA5 (p20.out h) _, fun h => absurd (d15.out (d21.out h).2) (by rw [hf]; decide), q01.out, q02.out, q12.out, d3.out, d19.out, d9.out, d20.out, fun _ => rfl, d21.out, kA4 hbox _, Below.alloc hB (Nat.le_of_lt hHs) _⟩
    · have f10 : f 10 = true := he 10 (by kernel_rfl)
      have f14 : f 14 = true := he 14 (by kernel_rfl)
      have r10 := p10.out f10
      have r14 := p14.out f14
      clear he
      refine wpOp_plainK rfl rfl (fun K HK => ?_)
      rw [r10, r14.1]
      clear r10 r14
      go_simp
      exact HK.out _ _ ⟨c, g, (fun k => if k = 25 then .agg #[.int .i64 1, .int .i64 1, .int .i64 1, .int .i64 8, .slice (some ⟨g 2, 0, none⟩) 1 1] else (fun k => if k = 24 then .slice (some ⟨g 2, 0, none⟩) 1 1 else (fun k => if k = 20 then .agg #[.int .i64 1, .int .i64 1, .int .i64 1, .int .i64 8] else v k) k) k), rfl, p0.out, p1.out, p2.out, p3.out, p4.out, p5.out, p6.out, p7.out, p8.out, p9.out, fun _ => rfl, p11.out, p12.out, p13.out, fun h => ⟨rfl, (p14.out h).2⟩, fun _ => rfl, p16.out, p17.out, p18.out, p19.out, p20.out, p21.out, q01.out, q02.out, q12.out, d3.out, d19.out, d9.out, d20.out, fun _ => f14, fun h => ⟨(d21.out h).1, rfl⟩, hbox, hB⟩
    · clear he
      refine wpOp_plainK rfl rfl (fun K HK => ?_)
      skip
      go_simp
      exact HK.out _ _ ⟨(fun k => if k = 0 then w.heap.size else c k), g, (fun k => if k = 3 then .pointer (some ⟨w.heap.size, 0, none⟩) else v k), rfl, p0.out, p1.out, fun h => ⟨(p2.out h).1, (p2.out h).2.1, heap_alloc_old (p2.out h).2.2⟩, p3.out, p4.out, p5.out, p6.out, p7.out, fun h => ⟨(p8.out h).1, (p8.out h).2.1, heap_alloc_old (p8.out h).2.2⟩, p9.out, p10.out, p11.out, p12.out, p13.out, fun h => ⟨(p14.out h).1, (p14.out h).2.1, heap_alloc_old (p14.out h).2.2⟩, p15.out, fun _ => ⟨rfl, hHs, (by rw [World.size_alloc]; exact Nat.lt_succ_self _), new_fz w _ _, fun _ => new5 w _ _ _ _ _ _ _⟩, fun h => ⟨(p17.out h).1, (p17.out h).2.1, (by rw [World.size_alloc]; exact Nat.lt_succ_of_lt (p17.out h).2.2.1), alloc_fz (p17.out h).2.2.1 (p17.out h).2.2.2.1 _, fun h2 => kA5 ((p17.out h).2.2.2.2 h2) _⟩, fun h => ⟨(p18.out h).1, (p18.out h).2.1, (by rw [World.size_alloc]; exact Nat.lt_succ_of_lt (p18.out h).2.2.1), alloc_fz (p18.out h).2.2.1 (p18.out h).2.2.2.1 _, fun h2 => kA5 ((p18.out h).2.2.2.2 h2) _⟩, fun h => absurd (d19.out h).1 (by rw [hf]; decide), fun h => kA5 (p20.out h) _, fun h => kA5 (p21.out h) _, fun _ h => Ne.symm (Nat.ne_of_lt (p17.out h).2.2.1), fun _ h => Ne.symm (Nat.ne_of_lt (p18.out h).2.2.1), q12.out, d3.out, fun h => ⟨rfl, (d19.out h).2⟩, d9.out, d20.out, d15.out, d21.out, kA4 hbox _, Below.alloc hB (Nat.le_of_lt hHs) _⟩
    · clear he
      refine wpOp_plainK rfl rfl (fun K HK => ?_)
      skip
      go_simp
      exact HK.out _ _ ⟨(fun k => if k = 1 then w.heap.size else c k), g, (fun k => if k = 4 then .pointer (some ⟨w.heap.size, 0, none⟩) else v k), rfl, p0.out, p1.out, fun h => ⟨(p2.out h).1, (p2.out h).2.1, heap_alloc_old (p2.out h).2.2⟩, p3.out, p4.out, p5.out, p6.out, p7.out, fun h => ⟨(p8.out h).1, (p8.out h).2.1, heap_alloc_old (p8.out h).2.2⟩, p9.out, p10.out, p11.out, p12.out, p13.out, fun h => ⟨(p14.out h).1, (p14.out h).2.1, heap_alloc_old (p14.out h).2.2⟩, p15.out, fun h => ⟨(p16.out h).1, (p16.out h).2.1, (by rw [World.size_alloc]; exact Nat.lt_succ_of_lt (p16.out h).2.2.1), alloc_fz (p16.out h).2.2.1 (p16.out h).2.2.2.1 _, fun h2 => kA5 ((p16.out h).2.2.2.2 h2) _⟩, fun _ => ⟨rfl, hHs, (by rw [World.size_alloc]; exact Nat.lt_succ_self _), new_fz w _ _, fun _ => new5 w _ _ _ _ _ _ _⟩, fun h => ⟨(p18.out h).1, (p18.out h).2.1, (by rw [World.size_alloc]; exact Nat.lt_succ_of_lt (p18.out h).2.2.1), alloc_fz (p18.out h).2.2.1 (p18.out h).2.2.2.1 _, fun h2 => kA5 ((p18.out h).2.2.2.2 h2) _⟩, fun h => kA5 (p19.out h) _, fun h => absurd (d20.out h).1 (by rw [hf]; decide), fun h => kA5 (p21.out h) _, fun h _ => Nat.ne_of_lt (p16.out h).2.2.1, q02.out, fun _ h => Ne.symm (Nat.ne_of_lt (p18.out h).2.2.1), d3.out, d19.out, d9.out, fun h => ⟨rfl, (d20.out h).2⟩, d15.out, d21.out, kA4 hbox _, Below.alloc hB (Nat.le_of_lt hHs) _⟩
    · clear he
      refine wpOp_plainK rfl rfl (fun K HK => ?_)
      skip
      go_simp
      exact HK.out _ _ ⟨(fun k => if k = 2 then w.heap.size else c k), g, (fun k => if k = 5 then .pointer (some ⟨w.heap.size, 0, none⟩) else v k), rfl, p0.out, p1.out, fun h => ⟨(p2.out h).1, (p2.out h).2.1, heap_alloc_old (p2.out h).2.2⟩, p3.out, p4.out, p5.out, p6.out, p7.out, fun h => ⟨(p8.out h).1, (p8.out h).2.1, heap_alloc_old (p8.out h).2.2⟩, p9.out, p10.out, p11.out, p12.out, p13.out, fun h => ⟨(p14.out h).1, (p14.out h).2.1, heap_alloc_old (p14.out h).2.2⟩, p15.out, fun h => ⟨(p16.out h).1, (p16.out h).2.1, (by rw [World.size_alloc]; exact Nat.lt_succ_of_lt (p16.out h).2.2.1), alloc_fz (p16.out h).2.2.1 (p16.out h).2.2.2.1 _, fun h2 => kA5 ((p16.out h).2.2.2.2 h2) _⟩, fun h => ⟨(p17.out h).1, (p17.out h).2.1, (by rw [World.size_alloc]; exact Nat.lt_succ_of_lt (p17.out h).2.2.1), alloc_fz (p17.out h).2.2.1 (p17.out h).2.2.2.1 _, fun h2 => kA5 ((p17.out h).2.2.2.2 h2) _⟩, fun _ => ⟨rfl, hHs, (by rw [World.size_alloc]; exact Nat.lt_succ_self _), new_fz w _ _, fun _ => new5 w _ _ _ _ _ _ _⟩, fun h => kA5 (p19.out h) _, fun h => kA5 (p20.out h) _, fun h => absurd (d21.out h).1 (by rw [hf]; decide), q01.out, fun h _ => Nat.ne_of_lt (p16.out h).2.2.1, fun h _ => Nat.ne_of_lt (p17.out h).2.2.1, d3.out, d19.out, d9.out, d20.out, d15.out, fun h => ⟨rfl, (d21.out h).2⟩, kA4 hbox _, Below.alloc hB (Nat.le_of_lt hHs) _⟩
    · have f16 : f 16 = true := he 16 (by kernel_rfl)
      have f3 : f 3 = true := he 3 (by kernel_rfl)
      have r16 := p16.out f16
      have r3 := p3.out f3
      clear he
      refine wpOp_plainK rfl rfl (fun K HK => ?_)
      have cc := (r16.2.2.2.2 hf)
      have ff := r16.2.2.2.1
      have hlt := r16.2.1
      rw [r16.1, r3]
      skip
      go_simp
      exact HK.out _ _ ⟨c, g, (fun k => if k = 13 then .agg #[.int .i64 1, .int .i64 1, .int .i64 1, .int .i64 8, .slice (some ⟨g 0, 0, none⟩) 1 1] else (fun k => if k = 3 then .pointer (some ⟨c 0, 0, none⟩) else v k) k), rfl, p0.out, p1.out, fun h => ⟨(p2.out h).1, (p2.out h).2.1, heap_set5 (p2.out h).2.2 (one_ne (p2.out h).2.2 cc) _ _ _ _ _⟩, fun _ => rfl, p4.out, p5.out, p6.out, p7.out, fun h => ⟨(p8.out h).1, (p8.out h).2.1, heap_set5 (p8.out h).2.2 (one_ne (p8.out h).2.2 cc) _ _ _ _ _⟩, p9.out, p10.out, p11.out, p12.out, p13.out, fun h => ⟨(p14.out h).1, (p14.out h).2.1, heap_set5 (p14.out h).2.2 (one_ne (p14.out h).2.2 cc) _ _ _ _ _⟩, p15.out, fun h => ⟨rfl, (p16.out h).2.1, by simpa using (p16.out h).2.2.1, keptF5 (p16.out h).2.2.2.1 _ _ _ _ _, fun h2 => absurd h2 (by simp)⟩, fun h => ⟨(p17.out h).1, (p17.out h).2.1, by simpa using (p17.out h).2.2.1, keptF5 (p17.out h).2.2.2.1 _ _ _ _ _, fun h2 => keptS5 ((p17.out h).2.2.2.2 h2) (Ne.symm (q01.out f16 h)) _ _ _ _ _⟩, fun h => ⟨(p18.out h).1, (p18.out h).2.1, by simpa using (p18.out h).2.2.1, keptF5 (p18.out h).2.2.2.1 _ _ _ _ _, fun h2 => keptS5 ((p18.out h).2.2.2.2 h2) (Ne.symm (q02.out f16 h)) _ _ _ _ _⟩, fun _ => set5 cc _ _ _ _ _, fun h => keptS5 (p20.out h) (fun e => absurd e (Ne.symm (q01.out f16 (d20.out h).1))) _ _ _ _ _, fun h => keptS5 (p21.out h) (fun e => absurd e (Ne.symm (q02.out f16 (d21.out h).1))) _ _ _ _ _, q01.out, q02.out, q12.out, d3.out, fun _ => ⟨f16, f3⟩, d9.out, d20.out, d15.out, d21.out, keptS5 hbox (by omega) _ _ _ _ _, Below.set5 hB (by omega) _ _ _ _ _⟩
    · have f17 : f 17 = true := he 17 (by kernel_rfl)
      have f9 : f 9 = true := he 9 (by kernel_rfl)
      have r17 := p17.out f17
      have r9 := p9.out f9
      clear he
      refine wpOp_plainK rfl rfl (fun K HK => ?_)
      have cc := (r17.2.2.2.2 hf)
      have ff := r17.2.2.2.1
      have hlt := r17.2.1
      rw [r17.1, r9]
      skip
      go_simp
      exact HK.out _ _ ⟨c, g, (fun k => if k = 19 then .agg #[.int .i64 1, .int .i64 1, .int .i64 1, .int .i64 8, .slice (some ⟨g 1, 0, none⟩) 1 1] else (fun k => if k = 4 then .pointer (some ⟨c 1, 0, none⟩) else v k) k), rfl, p0.out, p1.out, fun h => ⟨(p2.out h).1, (p2.out h).2.1, heap_set5 (p2.out h).2.2 (one_ne (p2.out h).2.2 cc) _ _ _ _ _⟩, p3.out, p4.out, p5.out, p6.out, p7.out, fun h => ⟨(p8.out h).1, (p8.out h).2.1, heap_set5 (p8.out h).2.2 (one_ne (p8.out h).2.2 cc) _ _ _ _ _⟩, fun _ => rfl, p10.out, p11.out, p12.out, p13.out, fun h => ⟨(p14.out h).1, (p14.out h).2.1, heap_set5 (p14.out h).2.2 (one_ne (p14.out h).2.2 cc) _ _ _ _ _⟩, p15.out, fun h => ⟨(p16.out h).1, (p16.out h).2.1, by simpa using (p16.out h).2.2.1, keptF5 (p16.out h).2.2.2.1 _ _ _ _ _, fun h2 => keptS5 ((p16.out h).2.2.2.2 h2) (q01.out h f17) _ _ _ _ _⟩, fun h => ⟨rfl, (p17.out h).2.1, by simpa using (p17.out h).2.2.1, keptF5 (p17.out h).2.2.2.1 _ _ _ _ _, fun h2 => absurd h2 (by simp)⟩, fun h => ⟨(p18.out h).1, (p18.out h).2.1, by simpa using (p18.out h).2.2.1, keptF5 (p18.out h).2.2.2.1 _ _ _ _ _, fun h2 => keptS5 ((p18.out h).2.2.2.2 h2) (Ne.symm (q12.out f17 h)) _ _ _ _ _⟩, fun h => keptS5 (p19.out h) (fun e => absurd e (q01.out (d19.out h).1 f17)) _ _ _ _ _, fun _ => set5 cc _ _ _ _ _, fun h => keptS5 (p21.out h) (fun e => absurd e (Ne.symm (q12.out f17 (d21.out h).1))) _ _ _ _ _, q01.out, q02.out, q12.out, d3.out, d19.out, d9.out, fun _ => ⟨f17, f9⟩, d15.out, d21.out, keptS5 hbox (by omega) _ _ _ _ _, Below.set5 hB (by omega) _ _ _ _ _⟩
    · have f18 : f 18 = true := he 18 (by kernel_rfl)
      have f15 : f 15 = true := he 15 (by kernel_rfl)
      have r18 := p18.out f18
      have r15 := p15.out f15
      clear he
      refine wpOp_plainK rfl rfl (fun K HK => ?_)
      have cc := (r18.2.2.2.2 hf)
      have ff := r18.2.2.2.1
      have hlt := r18.2.1
      rw [r18.1, r15]
      skip
      go_simp
      exact HK.out _ _ ⟨c, g, (fun k => if k = 25 then .agg #[.int .i64 1, .int .i64 1, .int .i64 1, .int .i64 8, .slice (some ⟨g 2, 0, none⟩) 1 1] else (fun k => if k = 5 then .pointer (some ⟨c 2, 0, none⟩) else v k) k), rfl, p0.out, p1.out, fun h => ⟨(p2.out h).1, (p2.out h).2.1, heap_set5 (p2.out h).2.2 (one_ne (p2.out h).2.2 cc) _ _ _ _ _⟩, p3.out, p4.out, p5.out, p6.out, p7.out, fun h => ⟨(p8.out h).1, (p8.out h).2.1, heap_set5 (p8.out h).2.2 (one_ne (p8.out h).2.2 cc) _ _ _ _ _⟩, p9.out, p10.out, p11.out, p12.out, p13.out, fun h => ⟨(p14.out h).1, (p14.out h).2.1, heap_set5 (p14.out h).2.2 (one_ne (p14.out h).2.2 cc) _ _ _ _ _⟩, fun _ => rfl, fun h => ⟨(p16.out h).1, (p16.out h).2.1, by simpa using (p16.out h).2.2.1, keptF5 (p16.out h).2.2.2.1 _ _ _ _ _, fun h2 => keptS5 ((p16.out h).2.2.2.2 h2) (q02.out h f18) _ _ _ _ _⟩, fun h => ⟨(p17.out h).1, (p17.out h).2.1, by simpa using (p17.out h).2.2.1, keptF5 (p17.out h).2.2.2.1 _ _ _ _ _, fun h2 => keptS5 ((p17.out h).2.2.2.2 h2) (q12.out h f18) _ _ _ _ _⟩, fun h => ⟨rfl, (p18.out h).2.1, by simpa using (p18.out h).2.2.1, keptF5 (p18.out h).2.2.2.1 _ _ _ _ _, fun h2 => absurd h2 (by simp)⟩, fun h => keptS5 (p19.out h) (fun e => absurd e (q02.out (d19.out h).1 f18)) _ _ _ _ _, fun h => keptS5 (p20.out h) (fun e => absurd e (q12.out (d20.out h).1 f18)) _ _ _ _ _, fun _ => set5 cc _ _ _ _ _, q01.out, q02.out, q12.out, d3.out, d19.out, d9.out, d20.out, d15.out, fun _ => ⟨f18, f15⟩, keptS5 hbox (by omega) _ _ _ _ _, Below.set5 hB (by omega) _ _ _ _ _⟩
  · intro f a w' hf hI
    obtain ⟨c, g, v, rfl, p0, p1, p2, p3, p4, p5, p6, p7, p8, p9, p10, p11, p12, p13, p14, p15, p16, p17, p18, p19, p20, p21, q01, q02, q12, d3, d19, d9, d20, d15, d21, hbox, hB⟩ := hI
    have r2 := p2 (hf 2 (by decide))
    have r8 := p8 (hf 8 (by decide))
    have r14 := p14 (hf 14 (by decide))
    have r16 := p16 (hf 16 (by decide))
    have r17 := p17 (hf 17 (by decide))
    have r18 := p18 (hf 18 (by decide))
    have r19 := p19 (hf 19 (by decide))
    have r20 := p20 (hf 20 (by decide))
    have r21 := p21 (hf 21 (by decide))
    have HR : Hid (keyRel w (v 3) (v 4) (v 5) w') := ⟨c 0, c 1, c 2, g 0, g 1, g 2, r16.1, r17.1, r18.1, r19, r20, r21, rd_blk r2.2.2, rd_blk r8.2.2, rd_blk r14.2.2, HH.out ▸ hB⟩
    clear p0 p1 p2 p3 p4 p5 p6 p7 p8 p9 p10 p11 p12 p13 p14 p15 p16 p17 p18 p19 p20 p21 q01 q02 q12 d3 d19 d9 d20 d15 d21 r2 r8 r14 r16 r17 r18 r19 r20 r21 hbox hB hks hf
    have hH' := HH.out
    subst hH'
    go_wp2_with fail
    go_meet
    case rel => exact ⟨rfl, HR.out⟩

end Go.Proofs.Ytmffmijjdpjaiaa
