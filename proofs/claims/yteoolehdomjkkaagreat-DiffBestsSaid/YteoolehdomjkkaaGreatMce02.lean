/- XMcBox XMcDiff1 XMcDiff2 XMcBestD XMcDiff3 -/
import Derived.Test.YteoolehdomjkkaaGreatMce01
import Derived.Test.YteoolehdomjkkaaGreatMc30
import Derived.StillTailTactics
namespace Go.Proofs.YteoolehdomjkkaaGreat
set_option linter.all false
open Go.RowKit

/-- The cells of a boxed picture, of a boxed shape. -/
def r5 (a b c d e : Value) : Nat → Option Value
  | 0 => some a
  | 1 => some b
  | 2 => some c
  | 3 => some d
  | 4 => some e
  | _ => none
def s4 (a b c d : Value) : Nat → Option Value
  | 0 => some a
  | 1 => some b
  | 2 => some c
  | 3 => some d
  | _ => none
@[go_sem] theorem r5_0 (a b c d e : Value) : r5 a b c d e 0 = some a := rfl
@[go_sem] theorem r5_1 (a b c d e : Value) : r5 a b c d e 1 = some b := rfl
@[go_sem] theorem r5_2 (a b c d e : Value) : r5 a b c d e 2 = some c := rfl
@[go_sem] theorem r5_3 (a b c d e : Value) : r5 a b c d e 3 = some d := rfl
@[go_sem] theorem r5_4 (a b c d e : Value) : r5 a b c d e 4 = some e := rfl
@[go_sem] theorem s4_0 (a b c d : Value) : s4 a b c d 0 = some a := rfl
@[go_sem] theorem s4_1 (a b c d : Value) : s4 a b c d 1 = some b := rfl
@[go_sem] theorem s4_2 (a b c d : Value) : s4 a b c d 2 = some c := rfl
@[go_sem] theorem s4_3 (a b c d : Value) : s4 a b c d 3 = some d := rfl

theorem new5 (w : World) (a b c d e : Value) (t : TypeId) (fr : Nat × Nat) : ∀ i, (w.alloc (.cells #[a, b, c, d, e] t fr)).cell? ⟨w.heap.size, i, none⟩ = r5 a b c d e i := by
  intro i
  rw [cell_of_row (w.alloc (.cells #[a, b, c, d, e] t fr)) w.heap.size i #[a, b, c, d, e] t fr (heap_alloc_new w _)]
  match i with
  | 0 => rfl
  | 1 => rfl
  | 2 => rfl
  | 3 => rfl
  | 4 => rfl
  | j + 5 => simp [r5]
theorem new4 (w : World) (a b c d : Value) (t : TypeId) (fr : Nat × Nat) : ∀ i, (w.alloc (.cells #[a, b, c, d] t fr)).cell? ⟨w.heap.size, i, none⟩ = s4 a b c d i := by
  intro i
  rw [cell_of_row (w.alloc (.cells #[a, b, c, d] t fr)) w.heap.size i #[a, b, c, d] t fr (heap_alloc_new w _)]
  match i with
  | 0 => rfl
  | 1 => rfl
  | 2 => rfl
  | 3 => rfl
  | j + 4 => simp [s4]
theorem box5 {w w1 : World} {a b c d e : Value} {t : TypeId} {fr : Nat × Nat} (h : Below (w.alloc (.cells #[a, b, c, d, e] t fr)).heap.size (w.alloc (.cells #[a, b, c, d, e] t fr)) w1) :
    ∀ i, w1.cell? ⟨w.heap.size, i, none⟩ = r5 a b c d e i := fun i => by
  rw [h.cell (p := ⟨w.heap.size, i, none⟩) (by simp), new5]
theorem box4 {w w1 : World} {a b c d : Value} {t : TypeId} {fr : Nat × Nat} (h : Below (w.alloc (.cells #[a, b, c, d] t fr)).heap.size (w.alloc (.cells #[a, b, c, d] t fr)) w1) :
    ∀ i, w1.cell? ⟨w.heap.size, i, none⟩ = s4 a b c d i := fun i => by
  rw [h.cell (p := ⟨w.heap.size, i, none⟩) (by simp), new4]
theorem boxF {w w1 : World} {cs : Array Value} {t : TypeId} (h : Below (w.alloc (.cells cs t)).heap.size (w.alloc (.cells cs t)) w1) :
    ∀ i, w1.frozen? ⟨w.heap.size, i, none⟩ = false := fun i => free5 (by simp) h i
theorem kept {w w' : World} {b : Nat} {F : Nat → Option Value} {v : Value} (c : ∀ i, w.cell? ⟨b, i, none⟩ = F i) (h0 : F 0 = some v) (h : Below w.heap.size w w') : ∀ i, w'.cell? ⟨b, i, none⟩ = F i :=
  fun i => (h.cell (p := ⟨b, i, none⟩) (show b < w.heap.size from block_lt_of_cell (a := ⟨b, 0, none⟩) ((c 0).trans h0))).trans (c i)
theorem keptF {w w' : World} {b : Nat} (hb : b < w.heap.size) (f : ∀ i, w.frozen? ⟨b, i, none⟩ = false) (h : Below w.heap.size w w') : ∀ i, w'.frozen? ⟨b, i, none⟩ = false :=
  fun i => (h.frozen (p := ⟨b, i, none⟩) hb).trans (f i)
theorem keptA {w : World} {b : Nat} {F : Nat → Option Value} {v : Value} (c : ∀ i, w.cell? ⟨b, i, none⟩ = F i) (h0 : F 0 = some v) (o : Obj) : ∀ i, (w.alloc o).cell? ⟨b, i, none⟩ = F i :=
  kept c h0 ((Below.refl _ _).alloc (Nat.le_refl _) _)
theorem keptS {w : World} {b : Nat} {F : Nat → Option Value} (c : ∀ i, w.cell? ⟨b, i, none⟩ = F i) {p : Addr} (hp : b ≠ p.block) (v : Value) : ∀ i, (w.setCell p v).cell? ⟨b, i, none⟩ = F i :=
  fun i => (World.cell?_setCell_other w p ⟨b, i, none⟩ v (fun e => hp (by rw [e]))).trans (c i)
theorem ltOf {w : World} {b : Nat} {F : Nat → Option Value} {v : Value} (c : ∀ i, w.cell? ⟨b, i, none⟩ = F i) (h0 : F 0 = some v) : b < w.heap.size := block_lt_of_cell (a := ⟨b, 0, none⟩) ((c 0).trans h0)

theorem keptD {w w' : World} {b : Nat} {F : Nat → Option Value} {v : Value} (c : ∀ i, w.cell? ⟨b, i, none⟩ = F i) (h0 : F 0 = some v) (h : Below w.drew.heap.size w.drew w') : ∀ i, w'.cell? ⟨b, i, none⟩ = F i :=
  kept (w := w.drew) c h0 h
theorem keptN {w w' : World} {b k : Nat} {F : Nat → Option Value} {v : Value} (c : ∀ i, w.cell? ⟨b, i, none⟩ = F i) (h0 : F 0 = some v) (h : Below (w.drewN k).heap.size (w.drewN k) w') : ∀ i, w'.cell? ⟨b, i, none⟩ = F i :=
  kept (w := w.drewN k) c h0 h
theorem laterD {w w' : World} {base : Nat} {v : Value} {bs : List UInt8} (h : ownB w base v bs) (hb : Below w.drew.heap.size w.drew w') : ownB w' base v bs := ownB.later (w := w.drew) h hb
theorem laterN {w w' : World} {base k : Nat} {v : Value} {bs : List UInt8} (h : ownB w base v bs) (hb : Below (w.drewN k).heap.size (w.drewN k) w') : ownB w' base v bs := ownB.later (w := w.drewN k) h hb

theorem setAt {w : World} {b k : Nat} {F : Nat → Option Value} {u : Value} (c : ∀ i, w.cell? ⟨b, i, none⟩ = F i) (hk : F k = some u) (v : Value) : ∀ i, (w.setCell ⟨b, k, none⟩ v).cell? ⟨b, i, none⟩ = if i = k then some v else F i := by
  intro i
  by_cases h : i = k
  · subst h
    rw [if_pos rfl]
    exact World.cell?_setCell_same w ⟨b, i, none⟩ v ((c i).trans hk)
  · rw [if_neg h, World.cell?_setCell_other w ⟨b, k, none⟩ ⟨b, i, none⟩ v (by intro e; injection e with _ e; exact h e.symm)]
    exact c i
theorem setR {w : World} {b k : Nat} {F G : Nat → Option Value} {u : Value} (c : ∀ i, w.cell? ⟨b, i, none⟩ = F i) (hk : F k = some u) (v : Value) (hG : ∀ i, (if i = k then some v else F i) = G i) : ∀ i, (w.setCell ⟨b, k, none⟩ v).cell? ⟨b, i, none⟩ = G i :=
  fun i => (setAt c hk v i).trans (hG i)
theorem r5_set0 (a b c d e v : Value) : ∀ i, (if i = 0 then some v else r5 a b c d e i) = r5 v b c d e i
  | 0 => rfl | 1 => rfl | 2 => rfl | 3 => rfl | 4 => rfl | j + 5 => by simp [r5]
theorem r5_set1 (a b c d e v : Value) : ∀ i, (if i = 1 then some v else r5 a b c d e i) = r5 a v c d e i
  | 0 => rfl | 1 => rfl | 2 => rfl | 3 => rfl | 4 => rfl | j + 5 => by simp [r5]
theorem r5_set2 (a b c d e v : Value) : ∀ i, (if i = 2 then some v else r5 a b c d e i) = r5 a b v d e i
  | 0 => rfl | 1 => rfl | 2 => rfl | 3 => rfl | 4 => rfl | j + 5 => by simp [r5]
theorem r5_set3 (a b c d e v : Value) : ∀ i, (if i = 3 then some v else r5 a b c d e i) = r5 a b c v e i
  | 0 => rfl | 1 => rfl | 2 => rfl | 3 => rfl | 4 => rfl | j + 5 => by simp [r5]
theorem r5_set4 (a b c d e v : Value) : ∀ i, (if i = 4 then some v else r5 a b c d e i) = r5 a b c d v i
  | 0 => rfl | 1 => rfl | 2 => rfl | 3 => rfl | 4 => rfl | j + 5 => by simp [r5]
/-- A box written anew. -/
theorem set5 {w : World} {b : Nat} {a0 a1 a2 a3 a4 : Value} (c : ∀ i, w.cell? ⟨b, i, none⟩ = r5 a0 a1 a2 a3 a4 i) (v0 v1 v2 v3 v4 : Value) :
    ∀ i, (((((w.setCell ⟨b, 0, none⟩ v0).setCell ⟨b, 1, none⟩ v1).setCell ⟨b, 2, none⟩ v2).setCell ⟨b, 3, none⟩ v3).setCell ⟨b, 4, none⟩ v4).cell? ⟨b, i, none⟩ = r5 v0 v1 v2 v3 v4 i :=
  setR (setR (setR (setR (setR c rfl v0 (r5_set0 _ _ _ _ _ _)) rfl v1 (r5_set1 _ _ _ _ _ _)) rfl v2 (r5_set2 _ _ _ _ _ _)) rfl v3 (r5_set3 _ _ _ _ _ _)) rfl v4 (r5_set4 _ _ _ _ _ _)
theorem keptS5 {w : World} {b g : Nat} {F : Nat → Option Value} (c : ∀ i, w.cell? ⟨b, i, none⟩ = F i) (hne : b ≠ g) (v0 v1 v2 v3 v4 : Value) :
    ∀ i, (((((w.setCell ⟨g, 0, none⟩ v0).setCell ⟨g, 1, none⟩ v1).setCell ⟨g, 2, none⟩ v2).setCell ⟨g, 3, none⟩ v3).setCell ⟨g, 4, none⟩ v4).cell? ⟨b, i, none⟩ = F i :=
  keptS (keptS (keptS (keptS (keptS c (p := ⟨g, 0, none⟩) hne v0) (p := ⟨g, 1, none⟩) hne v1) (p := ⟨g, 2, none⟩) hne v2) (p := ⟨g, 3, none⟩) hne v3) (p := ⟨g, 4, none⟩) hne v4
theorem Below.set5 {B g : Nat} {a w : World} (h : Below B a w) (hg : B ≤ g) (v0 v1 v2 v3 v4 : Value) :
    Below B a (((((w.setCell ⟨g, 0, none⟩ v0).setCell ⟨g, 1, none⟩ v1).setCell ⟨g, 2, none⟩ v2).setCell ⟨g, 3, none⟩ v3).setCell ⟨g, 4, none⟩ v4) :=
  ((((h.setCell (p := ⟨g, 0, none⟩) hg v0).setCell (p := ⟨g, 1, none⟩) hg v1).setCell (p := ⟨g, 2, none⟩) hg v2).setCell (p := ⟨g, 3, none⟩) hg v3).setCell (p := ⟨g, 4, none⟩) hg v4
theorem ownB.far5 {w : World} {base g : Nat} {v : Value} {bs : List UInt8} (h : ownB w base v bs) (hg : v.ownBlock ≠ some g) (v0 v1 v2 v3 v4 : Value) :
    ownB (((((w.setCell ⟨g, 0, none⟩ v0).setCell ⟨g, 1, none⟩ v1).setCell ⟨g, 2, none⟩ v2).setCell ⟨g, 3, none⟩ v3).setCell ⟨g, 4, none⟩ v4) base v bs :=
  ((((h.far hg 0 v0).far hg 1 v1).far hg 2 v2).far hg 3 v3).far hg 4 v4
theorem RdB.here {w : World} {B n : Nat} {A : Option Addr} {bs : List UInt8} (h : RdB w B A n bs) : RdB w w.heap.size A n bs := Rd.here h
theorem boxFD {w w1 : World} {cs : Array Value} {t : TypeId} (h : Below (w.alloc (.cells cs t)).drew.heap.size (w.alloc (.cells cs t)).drew w1) :
    ∀ i, w1.frozen? ⟨w.heap.size, i, none⟩ = false := fun i => by
  rw [h.frozen (p := ⟨w.heap.size, i, none⟩) (by show w.heap.size < (w.alloc (.cells cs t)).heap.size; simp)]
  show (w.alloc (.cells cs t)).frozen? _ = false
  unfold World.frozen?
  rw [heap_alloc_new]
  simp
theorem box5D {w w1 : World} {a b c d e : Value} {t : TypeId} {fr : Nat × Nat} (h : Below (w.alloc (.cells #[a, b, c, d, e] t fr)).drew.heap.size (w.alloc (.cells #[a, b, c, d, e] t fr)).drew w1) :
    ∀ i, w1.cell? ⟨w.heap.size, i, none⟩ = r5 a b c d e i := fun i => by
  rw [h.cell (p := ⟨w.heap.size, i, none⟩) (by show w.heap.size < (w.alloc (.cells #[a, b, c, d, e] t fr)).heap.size; simp)]
  exact new5 w a b c d e t fr i

theorem keptFA {w : World} {b : Nat} (hb : b < w.heap.size) (f : ∀ i, w.frozen? ⟨b, i, none⟩ = false) (o : Obj) : ∀ i, (w.alloc o).frozen? ⟨b, i, none⟩ = false :=
  keptF hb f ((Below.refl _ _).alloc (Nat.le_refl _) _)
theorem keptFD {w w' : World} {b : Nat} (hb : b < w.heap.size) (f : ∀ i, w.frozen? ⟨b, i, none⟩ = false) (h : Below w.drew.heap.size w.drew w') : ∀ i, w'.frozen? ⟨b, i, none⟩ = false :=
  keptF (w := w.drew) hb f h
theorem keptF5 {w : World} {b g : Nat} (f : ∀ i, w.frozen? ⟨b, i, none⟩ = false) (v0 v1 v2 v3 v4 : Value) :
    ∀ i, (((((w.setCell ⟨g, 0, none⟩ v0).setCell ⟨g, 1, none⟩ v1).setCell ⟨g, 2, none⟩ v2).setCell ⟨g, 3, none⟩ v3).setCell ⟨g, 4, none⟩ v4).frozen? ⟨b, i, none⟩ = false := fun i => by
  simp only [World.frozen?_setCell]
  exact f i
theorem keptFS {w : World} {b : Nat} (f : ∀ i, w.frozen? ⟨b, i, none⟩ = false) (p : Addr) (v : Value) : ∀ i, (w.setCell p v).frozen? ⟨b, i, none⟩ = false := fun i => by
  simp only [World.frozen?_setCell]
  exact f i

theorem RdB.alloc {w : World} {B n : Nat} {A : Option Addr} {bs : List UInt8} (h : RdB w B A n bs) (hB : B ≤ w.heap.size) (o : Obj) : RdB (w.alloc o) B A n bs := Rd.alloc h hB o
theorem RdB.drewN {w : World} {B n : Nat} {A : Option Addr} {bs : List UInt8} (h : RdB w B A n bs) (k : Nat) : RdB (w.drewN k) B A n bs := h
theorem RdB.drew {w : World} {B n : Nat} {A : Option Addr} {bs : List UInt8} (h : RdB w B A n bs) : RdB w.drew B A n bs := h
theorem RdB.more {w : World} {B B' n : Nat} {A : Option Addr} {bs : List UInt8} (h : RdB w B A n bs) (hB : B ≤ B') : RdB w B' A n bs := Rd.more h hB
theorem flipW {P : Program} {f : FuncId} {args : Array Value} {w : World} {v : Value} (h : Calls P f args w fun e w' => e = .returned v ∧ w = w') : Calls P f args w fun e w' => e = .returned v ∧ w' = w :=
  h.mono fun _ _ ⟨a, b⟩ => ⟨a, b.symm⟩

theorem new4' (w : World) (o : Obj) (a b c d : Value) (t : TypeId) (fr : Nat × Nat) : ∀ i, ((w.alloc o).alloc (.cells #[a, b, c, d] t fr)).cell? ⟨w.heap.size + 1, i, none⟩ = s4 a b c d i := fun i => by
  have h := new4 (w.alloc o) a b c d t fr i
  rw [World.size_alloc] at h
  exact h
theorem new5' (w : World) (o : Obj) (a b c d e : Value) (t : TypeId) (fr : Nat × Nat) : ∀ i, ((w.alloc o).alloc (.cells #[a, b, c, d, e] t fr)).cell? ⟨w.heap.size + 1, i, none⟩ = r5 a b c d e i := fun i => by
  have h := new5 (w.alloc o) a b c d e t fr i
  rw [World.size_alloc] at h
  exact h

theorem keptBl {w w' : World} {b B : Nat} {F : Nat → Option Value} (c : ∀ i, w.cell? ⟨b, i, none⟩ = F i) (h : Below B w w') (hb : b < B) : ∀ i, w'.cell? ⟨b, i, none⟩ = F i :=
  fun i => (h.cell (p := ⟨b, i, none⟩) hb).trans (c i)

end Go.Proofs.YteoolehdomjkkaaGreat

/- diff: what is wrong with two pictures. -/
namespace Go.Proofs.YteoolehdomjkkaaGreat
set_option linter.all false
open Go.RowKit

def wrongR (s t : Sh) (n m : Nat) : Int := if s.mayR n && t.mayR m then (if s = t then 0 else 13) else 4

set_option maxHeartbeats 1600000 in
theorem wrongDf_any (s t : Sh) (n c n' c' : Nat) (A A' : Option Addr) (w : World) :
    Calls Tryz.prog 39 #[s.r A n c, t.r A' n' c'] w fun e w' => e = .returned (.int .i64 (wrongR s t n n')) ∧ Below w.heap.size w w' := by
  have hB := Below.refl w.heap.size w
  have H1 := Lib.hid (fun w => may_any s A n c w)
  have H2 := Lib.hid (fun w => may_any t A' n' c' w)
  unfold wrongR
  generalize s.mayR n = p at H1 ⊢
  generalize t.mayR n' = q at H2 ⊢
  obtain ⟨W, H, C, D⟩ := s
  obtain ⟨W', H', C', D'⟩ := t
  show Calls _ _ #[.agg #[.int .i64 W, .int .i64 H, .int .i64 C, .int .i64 D, .slice A n c], .agg #[.int .i64 W', .int .i64 H', .int .i64 C', .int .i64 D', .slice A' n' c']] w _
  dsimp only [Sh.r] at H1 H2
  cases p <;> cases q <;> (
    go_enter Tryz.func39, Tryz.ntmps39
    go_wp2_with (first
      | (go_at_call 41; (with_reducible refine (H1.out _).mono ?_); rintro e w1 ⟨rfl, hb1⟩; have dd := box5 hb1; rw [World.size_alloc] at dd; replace hb1 := bxd hb1; have cc := box5 hb1; replace hB := bxd hb1; clear hb1)
      | (go_at_call 41; (with_reducible refine (H2.out _).mono ?_); rintro e w2 ⟨rfl, hb1⟩; replace cc := kept cc rfl hb1; replace dd := kept dd rfl hb1; replace hB := bstep hB hb1 (Nat.le_refl _); clear hb1))
    all_goals (go_ret; exact ⟨rfl, hB⟩))

theorem wrongR_zero {s t : Sh} {n m : Nat} (h : wrongR s t n m = 0) : s.mayR n = true ∧ t.mayR m = true ∧ s = t ∧ n = m ∧ n ≤ 16384 := by
  unfold wrongR at h
  split at h
  · rename_i h1
    simp at h1
    split at h
    · rename_i h2
      subst h2
      obtain ⟨h1, h2⟩ := h1
      unfold Sh.mayR at h1 h2
      unfold Sh.may at h1
      simp at h1 h2
      refine ⟨by unfold Sh.mayR Sh.may; simp [h1], by unfold Sh.mayR Sh.may; simp [h1, h2], rfl, by omega, by omega⟩
    · cases h
  · cases h

/-- A byte of a delta: x the base's, y the picture's. -/
def dop (k : Int) (x y : UInt8) : UInt8 := if k = 1 then y ^^^ x else y - x
def deltaB (k : Int) (bs rs : List UInt8) : List UInt8 := List.zipWith (dop k) bs rs
def makeR (k : Int) (s t : Sh) (bs rs : List UInt8) : List UInt8 × Int :=
  if k = 1 ∨ k = 2 then (if wrongR s t bs.length rs.length = 0 then (deltaB k bs rs, 0) else ([], wrongR s t bs.length rs.length)) else ([], 1)
theorem deltaB_len {k : Int} {bs rs : List UInt8} (h : bs.length = rs.length) : (deltaB k bs rs).length = rs.length := by simp [deltaB]; omega
theorem deltaB_at {k : Int} {bs rs : List UInt8} {i : Nat} {x y : UInt8} (hx : bs[i]? = some x) (hy : rs[i]? = some y) : (deltaB k bs rs)[i]? = some (dop k x y) := by
  simp [deltaB, List.getElem?_zipWith, hx, hy]

set_option maxHeartbeats 3200000 in
theorem make_ok (k : Int) (s t : Sh) (B n c B' n' c' : Nat) (A A' : Option Addr) (bs rs : List UInt8) (w : World) (hp : RdB w B A n bs) (hr : RdB w B' A' n' rs)
    (hB1 : B ≤ w.heap.size) (hB2 : B' ≤ w.heap.size) (hk : k = 1 ∨ k = 2) (h0 : wrongR s t n n' = 0) :
    Calls Tryz.prog 38 #[.int .i64 k, s.r A n c, t.r A' n' c'] w fun e w' =>
      ∃ v, e = .returned (.tuple #[v, .int .i64 0]) ∧ ownB w' w.heap.size v (deltaB k bs rs) ∧ Below w.heap.size w w' := by
  have hB := Below.refl w.heap.size w
  have H1 := Lib.hid (fun w => wrongDf_any s t n c n' c' A A' w)
  have HZ := Lib.hid h0
  obtain ⟨-, -, hst, hnn, h16⟩ := wrongR_zero h0
  have hl := hr.len
  have hl' := hp.len
  have HL := Lib.hid (deltaB_len (k := k) (bs := bs) (rs := rs) (by omega))
  have HN := Lib.hid hnn
  have HE := Lib.hid hl
  have HE' := Lib.hid hl'
  clear hst h0 hl' hl
  have h16' : n' ≤ 16384 := by omega
  clear hnn
  obtain ⟨W, H, C, D⟩ := s
  obtain ⟨W', H', C', D'⟩ := t
  dsimp only [Sh.r] at H1
  show Calls _ _ #[.int .i64 k, .agg #[.int .i64 W, .int .i64 H, .int .i64 C, .int .i64 D, .slice A n c], .agg #[.int .i64 W', .int .i64 H', .int .i64 C', .int .i64 D', .slice A' n' c']] w _
  rcases hk with rfl | rfl
  · go_enter Tryz.func38, Tryz.ntmps38
    go_wp2_with (first
      | (go_at_call 39; (with_reducible refine (H1.out _).mono ?_); rintro e w1 ⟨rfl, hb1⟩; rw [HZ.out]; have dd := box5 hb1; rw [World.size_alloc] at dd; replace hb1 := bxd hb1; have cc := box5 hb1; replace hB := bxd hb1; clear hb1)
      | (at_make; refine wpList_makeB rfl _ _ rfl n' _ rfl rfl rfl (by omega) ?_; intro w2 hown hb1 hsz; have hg : w.heap.size + 1 < w1.heap.size := ltOf dd rfl; replace cc := kept cc rfl hb1; replace dd := kept dd rfl hb1; replace hB := bstep hB hb1 (Nat.le_refl _); clear hb1))
    generalize hgg : w1.heap.size = g at hown hsz hg
    clear hgg
    replace hown := hown.mono (base' := w.heap.size) (by omega)
    go_loopw [31] (fun i wr => ∃ k : Nat, k ≤ n' ∧ i = .int .i64 k ∧ ownB wr w.heap.size (.slice (some ⟨g, 0, none⟩) n' n') (fillTo (deltaB 1 bs rs) k) ∧ (∀ i, wr.cell? ⟨w.heap.size, i, none⟩ = r5 (.int .i64 W) (.int .i64 H) (.int .i64 C) (.int .i64 D) (.slice A n c) i) ∧ (∀ i, wr.cell? ⟨w.heap.size + 1, i, none⟩ = r5 (.int .i64 W') (.int .i64 H') (.int .i64 C') (.int .i64 D') (.slice A' n' c') i) ∧ Below w.heap.size w wr)
      (fun i _ => n' - (intOf i).toNat)
    case atStart => exact ⟨0, Nat.zero_le _, rfl, by rw [fillTo_zero, HL.out, HE.out]; exact hown, cc, dd, hB⟩
    case round =>
      clear cc dd hB hown hsz
      obtain ⟨k, hk, rfl, hown, cc, dd, hB⟩ := hrel
      by_cases hlt : k < n'
      · obtain ⟨b, o, x, rfl, hbo, hx, cx⟩ := (hp.blw (hB.mono hB1)).byte (k := k) (by rw [HN.out]; exact hlt)
        obtain ⟨b', o', y, rfl, hbo', hy, cy⟩ := (hr.blw (hB.mono hB2)).byte hlt
        have HF : Hid (n' = (fillTo (deltaB 1 bs rs) k).length) := by show _ = _; rw [fillTo_len _ _ (by rw [HL.out, HE.out]; exact hk), HL.out, HE.out]
        obtain ⟨d0, _, cd⟩ := hown.byte HF.out hlt
        have fd := hown.frozen HF.out k
        have Hs : Hid (ownB (wr.setCell ⟨g, k, none⟩ (.int .u8 ((dop 1 x y).toNat : Int))) w.heap.size (.slice (some ⟨g, 0, none⟩) n' n') (fillTo (deltaB 1 bs rs) (k + 1))) := by
          show ownB _ _ _ _
          rw [fillTo_put _ k _ (deltaB_at hx.out hy.out)]
          exact hown.store HF.out k _
        have hlt2 : k < n := by rw [HN.out]; exact hlt
        simp only [dop] at Hs
        clear hx hy
        go_wp2
        go_roundw
        case rel => exact ⟨k + 1, by omega, by go_num, Hs.out, keptS cc (by show w.heap.size ≠ g; omega) _, keptS dd (by show w.heap.size + 1 ≠ g; omega) _, hB.setCell (by show w.heap.size ≤ g; omega) _⟩
        case measure => simp [intOf]; omega
      · have : k = n' := by omega
        subst this
        rw [show fillTo (deltaB 1 bs rs) k = deltaB 1 bs rs by have := fillTo_end (deltaB 1 bs rs); rwa [HL.out, HE.out] at this] at hown
        go_wp2
        go_ret2
        exact ⟨_, rfl, hown, hB⟩
  · go_enter Tryz.func38, Tryz.ntmps38
    go_wp2_with (first
      | (go_at_call 39; (with_reducible refine (H1.out _).mono ?_); rintro e w1 ⟨rfl, hb1⟩; rw [HZ.out]; have dd := box5 hb1; rw [World.size_alloc] at dd; replace hb1 := bxd hb1; have cc := box5 hb1; replace hB := bxd hb1; clear hb1)
      | (at_make; refine wpList_makeB rfl _ _ rfl n' _ rfl rfl rfl (by omega) ?_; intro w2 hown hb1 hsz; have hg : w.heap.size + 1 < w1.heap.size := ltOf dd rfl; replace cc := kept cc rfl hb1; replace dd := kept dd rfl hb1; replace hB := bstep hB hb1 (Nat.le_refl _); clear hb1))
    generalize hgg : w1.heap.size = g at hown hsz hg
    clear hgg
    replace hown := hown.mono (base' := w.heap.size) (by omega)
    go_loopw [31] (fun i wr => ∃ k : Nat, k ≤ n' ∧ i = .int .i64 k ∧ ownB wr w.heap.size (.slice (some ⟨g, 0, none⟩) n' n') (fillTo (deltaB 2 bs rs) k) ∧ (∀ i, wr.cell? ⟨w.heap.size, i, none⟩ = r5 (.int .i64 W) (.int .i64 H) (.int .i64 C) (.int .i64 D) (.slice A n c) i) ∧ (∀ i, wr.cell? ⟨w.heap.size + 1, i, none⟩ = r5 (.int .i64 W') (.int .i64 H') (.int .i64 C') (.int .i64 D') (.slice A' n' c') i) ∧ Below w.heap.size w wr)
      (fun i _ => n' - (intOf i).toNat)
    case atStart => exact ⟨0, Nat.zero_le _, rfl, by rw [fillTo_zero, HL.out, HE.out]; exact hown, cc, dd, hB⟩
    case round =>
      clear cc dd hB hown hsz
      obtain ⟨k, hk, rfl, hown, cc, dd, hB⟩ := hrel
      by_cases hlt : k < n'
      · obtain ⟨b, o, x, rfl, hbo, hx, cx⟩ := (hp.blw (hB.mono hB1)).byte (k := k) (by rw [HN.out]; exact hlt)
        obtain ⟨b', o', y, rfl, hbo', hy, cy⟩ := (hr.blw (hB.mono hB2)).byte hlt
        have HF : Hid (n' = (fillTo (deltaB 2 bs rs) k).length) := by show _ = _; rw [fillTo_len _ _ (by rw [HL.out, HE.out]; exact hk), HL.out, HE.out]
        obtain ⟨d0, _, cd⟩ := hown.byte HF.out hlt
        have fd := hown.frozen HF.out k
        have Hs : Hid (ownB (wr.setCell ⟨g, k, none⟩ (.int .u8 ((dop 2 x y).toNat : Int))) w.heap.size (.slice (some ⟨g, 0, none⟩) n' n') (fillTo (deltaB 2 bs rs) (k + 1))) := by
          show ownB _ _ _ _
          rw [fillTo_put _ k _ (deltaB_at hx.out hy.out)]
          exact hown.store HF.out k _
        have hlt2 : k < n := by rw [HN.out]; exact hlt
        simp only [dop] at Hs
        clear hx hy
        go_wp2
        go_roundw
        case rel => exact ⟨k + 1, by omega, by go_num, Hs.out, keptS cc (by show w.heap.size ≠ g; omega) _, keptS dd (by show w.heap.size + 1 ≠ g; omega) _, hB.setCell (by show w.heap.size ≤ g; omega) _⟩
        case measure => simp [intOf]; omega
      · have : k = n' := by omega
        subst this
        rw [show fillTo (deltaB 2 bs rs) k = deltaB 2 bs rs by have := fillTo_end (deltaB 2 bs rs); rwa [HL.out, HE.out] at this] at hown
        go_wp2
        go_ret2
        exact ⟨_, rfl, hown, hB⟩

end Go.Proofs.YteoolehdomjkkaaGreat

/- diff: Make whole; the chapter's example. -/
namespace Go.Proofs.YteoolehdomjkkaaGreat
set_option linter.all false
open Go.RowKit

set_option maxHeartbeats 1600000 in
theorem make_bad (k : Int) (s t : Sh) (n c n' c' : Nat) (A A' : Option Addr) (w : World) (E : Int) (hE : E = if k = 1 ∨ k = 2 then wrongR s t n n' else 1) (h0 : E ≠ 0) :
    Calls Tryz.prog 38 #[.int .i64 k, s.r A n c, t.r A' n' c'] w fun e w' =>
      e = .returned (.tuple #[.slice none 0 0, .int .i64 E]) ∧ Below w.heap.size w w' := by
  have hB := Below.refl w.heap.size w
  have H1 := Lib.hid (fun w => wrongDf_any s t n c n' c' A A' w)
  have hne : (E != 0) = true := by simpa using h0
  by_cases hk : k = 1 ∨ k = 2
  · rw [if_pos hk] at hE
    have HE := Lib.hid hE.symm
    clear hE h0
    obtain ⟨W, H, C, D⟩ := s
    obtain ⟨W', H', C', D'⟩ := t
    dsimp only [Sh.r] at H1
    show Calls _ _ #[.int .i64 k, .agg #[.int .i64 W, .int .i64 H, .int .i64 C, .int .i64 D, .slice A n c], .agg #[.int .i64 W', .int .i64 H', .int .i64 C', .int .i64 D', .slice A' n' c']] w _
    rcases hk with rfl | rfl
    all_goals
      go_enter Tryz.func38, Tryz.ntmps38
      go_wp2_with (go_at_call 39; (with_reducible refine (H1.out _).mono ?_); rintro e w1 ⟨rfl, hb1⟩; rw [HE.out]; replace hB := bxd (bxd hb1); clear hb1)
      go_ret2
      exact ⟨rfl, hB⟩
  · rw [if_neg hk] at hE
    subst hE
    clear h0 hne
    have d1 : (k != 1) = true := by rw [bne_iff_ne]; omega
    have d2 : (k != 2) = true := by rw [bne_iff_ne]; omega
    obtain ⟨W, H, C, D⟩ := s
    obtain ⟨W', H', C', D'⟩ := t
    show Calls _ _ #[.int .i64 k, .agg #[.int .i64 W, .int .i64 H, .int .i64 C, .int .i64 D, .slice A n c], .agg #[.int .i64 W', .int .i64 H', .int .i64 C', .int .i64 D', .slice A' n' c']] w _
    go_enter Tryz.func38, Tryz.ntmps38
    go_wp2
    go_ret2
    exact ⟨rfl, (hB.alloc (Nat.le_refl _) _).alloc (by simp) _⟩

theorem make_any (k : Int) (s t : Sh) (B n c B' n' c' : Nat) (A A' : Option Addr) (bs rs : List UInt8) (w : World) (hp : RdB w B A n bs) (hr : RdB w B' A' n' rs)
    (hB1 : B ≤ w.heap.size) (hB2 : B' ≤ w.heap.size) :
    Calls Tryz.prog 38 #[.int .i64 k, s.r A n c, t.r A' n' c'] w fun e w' =>
      ∃ v, e = .returned (.tuple #[v, .int .i64 (makeR k s t bs rs).2]) ∧ ownB w' w.heap.size v (makeR k s t bs rs).1 ∧ Below w.heap.size w w' := by
  have hl := hp.len
  have hl' := hr.len
  by_cases hk : k = 1 ∨ k = 2
  · by_cases h0 : wrongR s t n n' = 0
    · have e : makeR k s t bs rs = (deltaB k bs rs, 0) := by unfold makeR; rw [if_pos hk, hl, hl', if_pos h0]
      rw [e]
      exact make_ok k s t B n c B' n' c' A A' bs rs w hp hr hB1 hB2 hk h0
    · have e : makeR k s t bs rs = ([], wrongR s t n n') := by unfold makeR; rw [if_pos hk, hl, hl', if_neg h0]
      rw [e]
      refine (make_bad k s t n c n' c' A A' w _ (by rw [if_pos hk]) h0).mono ?_
      rintro e w' ⟨rfl, hb⟩
      exact ⟨_, rfl, ownB.nil_ _ _, hb⟩
  · have e : makeR k s t bs rs = ([], 1) := by unfold makeR; rw [if_neg hk]
    rw [e]
    refine (make_bad k s t n c n' c' A A' w 1 (by rw [if_neg hk]) (by decide)).mono ?_
    rintro e w' ⟨rfl, hb⟩
    exact ⟨_, rfl, ownB.nil_ _ _, hb⟩

theorem first11_val : makeR 2 ⟨1, 1, 1, 8⟩ ⟨1, 1, 1, 8⟩ [5] [3] = ([254], 0) := by decide +kernel

set_option maxHeartbeats 800000 in
theorem first11_any (w : World) : Calls Tryz.prog 7 #[] w fun e w' => e = .returned (.bool true) ∧ Below w.heap.size w w' := by
  have hB := Below.refl w.heap.size w
  have kc := conv_const
  have h := (fun w : World => make_any 2 ⟨1, 1, 1, 8⟩ ⟨1, 1, 1, 8⟩ (w.heap.size + 1) 1 1 ((w.alloc (.cells #[.int .u8 5] 5)).heap.size + 1) 1 1 (some ⟨w.heap.size, 0, none⟩) (some ⟨(w.alloc (.cells #[.int .u8 5] 5)).heap.size, 0, none⟩) [5] [3] ((w.alloc (.cells #[.int .u8 5] 5)).alloc (.cells #[.int .u8 3] 5)) (RdB.alloc (rd_one w 5 5 rfl) (by simp) _) (rd_one (w.alloc (.cells #[.int .u8 5] 5)) 3 3 rfl) (by simp) (by simp)) (w.alloc (.cells #[.int .i64 1, .int .i64 1, .int .i64 1, .int .i64 8] 23))
  simp only [World.size_alloc, Sh.r] at h
  have HV := Lib.hid h
  clear h
  go_enter Tryz.func7, Tryz.ntmps7
  go_wp2_with (go_at_call 38; (with_reducible refine HV.out.mono ?_); go_must (rintro e w1 ⟨v1, rfl, h1, hb1⟩; rw [first11_val] at h1 ⊢; dsimp only at h1 ⊢; obtain ⟨A1, c1, rfl, hr1, _, _⟩ := h1.form; have k1 := run_strB (n := 1) (c := c1) hr1; replace hb1 := ((((Below.refl w.heap.size w).alloc (Nat.le_refl _) _).alloc (by simp only [World.size_alloc]; omega) _).alloc (by simp only [World.size_alloc]; omega) _).trans (hb1.mono (by omega)); clear h1 hr1))
  go_ret
  exact ⟨rfl, hb1⟩

end Go.Proofs.YteoolehdomjkkaaGreat

/- diff: the better kind; what a pack is. -/
namespace Go.Proofs.YteoolehdomjkkaaGreat
set_option linter.all false
open Go.RowKit

theorem packL_len0 (bz S : List UInt8) : (packL bz S).length = 2 + bz.length + S.length := by
  unfold packL
  rw [List.length_append, List.length_append]
  rfl
theorem big4b0 {x : Nat} {S : List UInt8} (h : x < 4294967296) (hS : beR (x : Int) 4 = (S, 0)) : S = beB x 4 := by
  have hk : numOk (x : Int) 4 := ⟨by omega, by omega, by omega, by show (x : Int) / 2 ^ (8 * 4) ≤ 0; omega⟩
  unfold beR at hS
  rw [if_pos hk] at hS
  injection hS with hS _
  exact hS.symm
/-- A pack of bytes. -/
def PK (b l : List UInt8) : Prop := ∃ bz S, l = packL bz S ∧ WB bz (deflB b (findP b)) ∧ S = beB (adler b) 4
theorem PK.uniq {b l l' : List UInt8} (h : PK b l) (k : PK b l') : l = l' := by
  obtain ⟨bz, S, rfl, hw, rfl⟩ := h
  obtain ⟨bz', S', rfl, hw', rfl⟩ := k
  rw [hw.uniq hw']
theorem PK.len {b l : List UInt8} (h : PK b l) : l.length ≤ b.length + 11 := by
  obtain ⟨bz, S, rfl, hw, rfl⟩ := h
  have h1 := best_len hw
  rw [packL_len0, beB_len]
  omega
theorem packK_any (B n c : Nat) (A : Option Addr) (bs : List UInt8) (w : World) (h : RdB w B A n bs) (hB : B ≤ w.heap.size) (hn : n ≤ 40000) (hcap : n ≤ c) :
    Calls Tryz.prog 32 #[.slice A n c] w fun e w' => ∃ v l, e = .returned (.tuple #[v, .int .i64 0]) ∧ ownB w' w.heap.size v l ∧ PK bs l ∧ Below w.heap.size w w' := by
  obtain ⟨S, hS, hS4⟩ := big4 (adler_lt bs)
  refine (pack_any B n c A bs S w h hB hn hcap hS hS4).mono ?_
  rintro e w' ⟨v, bz, he, ho, hw, hb⟩
  exact ⟨v, _, he, ho, ⟨bz, S, rfl, hw, big4b0 (adler_lt bs) hS⟩, hb⟩
/-- The better one. -/
def pickK (l1 l2 : List UInt8) : Int × List UInt8 := if l2.length < l1.length then (2, l2) else (1, l1)
def p2 (a b : Value) : Nat → Option Value
  | 0 => some a
  | 1 => some b
  | _ => none
@[go_sem] theorem p2_0 (a b : Value) : p2 a b 0 = some a := rfl
@[go_sem] theorem p2_1 (a b : Value) : p2 a b 1 = some b := rfl
theorem new2p (w : World) (a b : Value) (t : TypeId) (fr : Nat × Nat) : ∀ i, (w.alloc (.cells #[a, b] t fr)).cell? ⟨w.heap.size, i, none⟩ = p2 a b i := by
  intro i
  rw [cell_of_row (w.alloc (.cells #[a, b] t fr)) w.heap.size i #[a, b] t fr (heap_alloc_new w _)]
  match i with
  | 0 => rfl
  | 1 => rfl
  | j + 2 => simp [p2]

set_option maxRecDepth 100000 in
set_option maxHeartbeats 6400000 in
theorem best_ok (s : Sh) (B n c B' c' : Nat) (A A' : Option Addr) (bs rs : List UInt8) (w : World) (hp : RdB w B A n bs) (hr : RdB w B' A' n rs)
    (hB1 : B ≤ w.heap.size) (hB2 : B' ≤ w.heap.size) (hm : s.mayR n = true) :
    Calls Tryz.prog 8 #[s.r A n c, s.r A' n c'] w fun e w' =>
      ∃ v l1 l2, e = .returned (.tuple #[.int .i64 (pickK l1 l2).1, v, .int .i64 0]) ∧ ownB w' w.heap.size v (pickK l1 l2).2 ∧ PK (deltaB 1 bs rs) l1 ∧ PK (deltaB 2 bs rs) l2 ∧ Below w.heap.size w w' := by
  have hB := Below.refl w.heap.size w
  have hz : wrongR s s n n = 0 := by unfold wrongR; rw [hm]; simp
  obtain ⟨-, -, -, -, hn16⟩ := wrongR_zero hz
  have HZ := Lib.hid hz
  have H1 := Lib.hid (fun w => wrongDf_any s s n c n c' A A' w)
  have HK := Lib.hid (fun (k : Int) (hk : k = 1 ∨ k = 2) (w' : World) (hb : Below w.heap.size w w') => make_ok k s s B n c B' n c' A A' bs rs w' (hp.blw (hb.mono hB1)) (hr.blw (hb.mono hB2)) (Nat.le_trans hB1 hb.size) (Nat.le_trans hB2 hb.size) hk hz)
  have HL := Lib.hid (fun k => (deltaB_len (k := k) (bs := bs) (rs := rs) (by rw [hp.len, hr.len])).trans hr.len)
  have HP := Lib.hid (fun (b : List UInt8) (w' : World) (A : Option Addr) (c : Nat) (h : RdB w' w'.heap.size A n b) (hc : n ≤ c) => packK_any w'.heap.size n c A b w' h (Nat.le_refl _) (by omega) hc)
  clear hz hm hp hr
  obtain ⟨W, H, C, D⟩ := s
  dsimp only [Sh.r, Sh.v] at H1 HK
  show Calls _ _ #[.agg #[.int .i64 W, .int .i64 H, .int .i64 C, .int .i64 D, .slice A n c], .agg #[.int .i64 W, .int .i64 H, .int .i64 C, .int .i64 D, .slice A' n c']] w _
  go_enter Tryz.func8, Tryz.ntmps8
  go_wp2_with (first
    | (go_at_call 39; (with_reducible refine (H1.out _).mono ?_); go_must (rintro e w1 ⟨rfl, hb1⟩; rw [HZ.out]; have c2 := box5 hb1; rw [World.size_alloc] at c2; replace hb1 := bxd hb1; have c1 := box5 hb1; replace hB := bxd hb1; clear hb1)))
  go_loopw [24, 8, 9] (fun vi vk vb wr => ((vi = .int .i64 0 ∧ vk = .int .i64 0 ∧ vb = .slice none 0 0) ∨ (vi = .int .i64 1 ∧ vk = .int .i64 1 ∧ ∃ l1, Hid (PK (deltaB 1 bs rs) l1) ∧ Hid (ownB wr w.heap.size vb l1)) ∨ (vi = .int .i64 2 ∧ ∃ l1 l2, Hid (PK (deltaB 1 bs rs) l1) ∧ Hid (PK (deltaB 2 bs rs) l2) ∧ vk = .int .i64 (pickK l1 l2).1 ∧ Hid (ownB wr w.heap.size vb (pickK l1 l2).2))) ∧ (∀ i, wr.cell? ⟨w.heap.size, i, none⟩ = r5 (.int .i64 W) (.int .i64 H) (.int .i64 C) (.int .i64 D) (.slice A n c) i) ∧ (∀ i, wr.cell? ⟨w.heap.size + 1, i, none⟩ = r5 (.int .i64 W) (.int .i64 H) (.int .i64 C) (.int .i64 D) (.slice A' n c') i) ∧ (∀ i, wr.cell? ⟨w1.heap.size, i, none⟩ = p2 (.int .i64 1) (.int .i64 2) i) ∧ Below w.heap.size w wr) (fun vi _ _ _ => (2 - intOf vi).toNat)
  case atStart => exact ⟨.inl ⟨rfl, rfl, rfl⟩, keptA c1 rfl _, keptA c2 rfl _, new2p w1 _ _ _ _, hB.alloc hB.size _⟩
  case round =>
    clear c1 c2 hB
    obtain ⟨hst, c1, c2, c3, hB⟩ := hrel
    rcases hst with ⟨rfl, rfl, rfl⟩ | ⟨rfl, rfl, l1, HP1, HO1⟩ | ⟨rfl, l1, l2, HP1, HP2, rfl, HO⟩
    · go_wp2_with (first
        | (go_at_call 38; (with_reducible refine (HK.out 1 (by omega) _ hB).mono ?_); go_must (rintro e w2 ⟨v, rfl, hx, hb1⟩; obtain ⟨Ax, cx, rfl, rx, hcx, _⟩ := hx.form; clear hx; rw [HL.out 1] at rx hcx ⊢; (try (first | replace c1 := kept c1 rfl hb1 | replace c1 := keptD c1 rfl hb1 | replace c1 := keptN c1 rfl hb1)); (try (first | replace c2 := kept c2 rfl hb1 | replace c2 := keptD c2 rfl hb1 | replace c2 := keptN c2 rfl hb1)); (try (first | replace c3 := kept c3 rfl hb1 | replace c3 := keptD c3 rfl hb1 | replace c3 := keptN c3 rfl hb1)); (first | replace hB := bstep hB hb1 (Nat.le_refl _) | replace hB := bstep hB.drew hb1 (Nat.le_refl _) | replace hB := bstep (bdrewN hB _) hb1 (Nat.le_refl _)); clear hb1))
        | (go_at_call 32; (with_reducible refine (HP.out _ _ _ _ rx hcx).mono ?_); go_must (rintro e w3 ⟨v3, l1, rfl, ho3, hk3, hb1⟩; have HP1 := Lib.hid hk3; have HO1 := Lib.hid (ho3.mono hB.size); clear ho3 hk3; (try (first | replace c1 := kept c1 rfl hb1 | replace c1 := keptD c1 rfl hb1 | replace c1 := keptN c1 rfl hb1)); (try (first | replace c2 := kept c2 rfl hb1 | replace c2 := keptD c2 rfl hb1 | replace c2 := keptN c2 rfl hb1)); (try (first | replace c3 := kept c3 rfl hb1 | replace c3 := keptD c3 rfl hb1 | replace c3 := keptN c3 rfl hb1)); (first | replace hB := bstep hB hb1 (Nat.le_refl _) | replace hB := bstep hB.drew hb1 (Nat.le_refl _) | replace hB := bstep (bdrewN hB _) hb1 (Nat.le_refl _)); clear hb1)))
      go_roundw
      case rel => exact ⟨.inr (.inl ⟨rfl, rfl, l1, HP1, HO1⟩), c1, c2, c3, hB⟩
      case measure => simp [intOf]
    · obtain ⟨A1, k1, rfl, -, -, -⟩ := HO1.out.form
      go_upto_region 12 with (first
        | (go_at_call 38; (with_reducible refine (HK.out 2 (by omega) _ hB).mono ?_); go_must (rintro e w2 ⟨v, rfl, hx, hb1⟩; obtain ⟨Ax, cx, rfl, rx, hcx, _⟩ := hx.form; clear hx; rw [HL.out 2] at rx hcx ⊢; have HO1 := Lib.hid (HO1.out.later hb1); (try (first | replace c1 := kept c1 rfl hb1 | replace c1 := keptD c1 rfl hb1 | replace c1 := keptN c1 rfl hb1)); (try (first | replace c2 := kept c2 rfl hb1 | replace c2 := keptD c2 rfl hb1 | replace c2 := keptN c2 rfl hb1)); (try (first | replace c3 := kept c3 rfl hb1 | replace c3 := keptD c3 rfl hb1 | replace c3 := keptN c3 rfl hb1)); (first | replace hB := bstep hB hb1 (Nat.le_refl _) | replace hB := bstep hB.drew hb1 (Nat.le_refl _) | replace hB := bstep (bdrewN hB _) hb1 (Nat.le_refl _)); clear hb1))
        | (go_at_call 32; (with_reducible refine (HP.out _ _ _ _ rx hcx).mono ?_); go_must (rintro e w3 ⟨v3, l2, rfl, ho3, hk3, hb1⟩; have HP2 := Lib.hid hk3; have HO2 := Lib.hid (ho3.mono hB.size); have HO1 := Lib.hid (HO1.out.later hb1); clear ho3 hk3; (try (first | replace c1 := kept c1 rfl hb1 | replace c1 := keptD c1 rfl hb1 | replace c1 := keptN c1 rfl hb1)); (try (first | replace c2 := kept c2 rfl hb1 | replace c2 := keptD c2 rfl hb1 | replace c2 := keptN c2 rfl hb1)); (try (first | replace c3 := kept c3 rfl hb1 | replace c3 := keptD c3 rfl hb1 | replace c3 := keptN c3 rfl hb1)); (first | replace hB := bstep hB hb1 (Nat.le_refl _) | replace hB := bstep hB.drew hb1 (Nat.le_refl _) | replace hB := bstep (bdrewN hB _) hb1 (Nat.le_refl _)); clear hb1)))
      obtain ⟨A2, k2, rfl, -, -, -⟩ := HO2.out.form
      by_cases hlt : l2.length < l1.length
      · have hli : (l2.length : Int) < (l1.length : Int) := by omega
        have HPI : Hid (pickK l1 l2 = (2, l2)) := (show _ = _ from if_pos hlt)
        go_wp2_with fail
        go_roundw
        case rel => exact ⟨.inr (.inr ⟨rfl, l1, l2, HP1, HP2, by rw [HPI.out], by rw [HPI.out]; exact HO2⟩), c1, c2, c3, hB⟩
        case measure => simp [intOf]
      · have hli : ¬ (l2.length : Int) < (l1.length : Int) := by omega
        have HPI : Hid (pickK l1 l2 = (1, l1)) := (show _ = _ from if_neg hlt)
        go_wp2_with fail
        go_roundw
        case rel => exact ⟨.inr (.inr ⟨rfl, l1, l2, HP1, HP2, by rw [HPI.out], by rw [HPI.out]; exact HO1⟩), c1, c2, c3, hB⟩
        case measure => simp [intOf]
    · go_wp2_with fail
      go_ret3
      exact ⟨_, l1, l2, rfl, HO.out, HP1.out, HP2.out, hB⟩

end Go.Proofs.YteoolehdomjkkaaGreat

/- diff: the reference's pair and Delta. -/
namespace Go.Proofs.YteoolehdomjkkaaGreat
set_option linter.all false
open Go.RowKit

set_option maxRecDepth 100000 in
set_option maxHeartbeats 1600000 in
theorem pair9_any (s t : Sh) (n c n' c' : Nat) (A A' : Option Addr) (w : World) :
    Calls Tryz.prog 79 #[s.r A n c, t.r A' n' c'] w fun e w' => e = .returned (.int .i64 (wrongR s t n n')) ∧ Below w.heap.size w w' := by
  have hB := Below.refl w.heap.size w
  have H1 := Lib.hid (fun w => may9_any s A n c w)
  have H2 := Lib.hid (fun w => may9_any t A' n' c' w)
  have H3 := Lib.hid (fun w => shape_any s t w)
  have e : wrongR s t n n' = if s.mayR n && t.mayR n' then (if decide (s = t) then 0 else 13) else 4 := by unfold wrongR; simp
  rw [e]
  clear e
  generalize s.mayR n = p at H1 ⊢
  generalize t.mayR n' = q at H2 ⊢
  generalize decide (s = t) = r at H3 ⊢
  obtain ⟨W, H, C, D⟩ := s
  obtain ⟨W', H', C', D'⟩ := t
  show Calls _ _ #[.agg #[.int .i64 W, .int .i64 H, .int .i64 C, .int .i64 D, .slice A n c], .agg #[.int .i64 W', .int .i64 H', .int .i64 C', .int .i64 D', .slice A' n' c']] w _
  dsimp only [Sh.r, Sh.v] at H1 H2 H3
  cases p <;> cases q <;> cases r <;> (
    go_enter Tryz.func79, Tryz.ntmps79
    go_wp2_with (first
      | (go_at_call 44; (with_reducible refine (H1.out _).mono ?_); rintro e w1 ⟨rfl, hb1⟩; have dd := box5 hb1; rw [World.size_alloc] at dd; replace hb1 := bxd hb1; have cc := box5 hb1; replace hB := bxd hb1; clear hb1)
      | (go_at_call 44; (with_reducible refine (H2.out _).mono ?_); rintro e w2 ⟨rfl, hb1⟩; replace cc := kept cc rfl hb1; replace dd := kept dd rfl hb1; replace hB := bstep hB hb1 (Nat.le_refl _); clear hb1)
      | (go_at_call 54; (with_reducible refine (H3.out _).mono ?_); rintro e w2 ⟨rfl, hb1⟩; replace cc := kept cc rfl hb1; replace dd := kept dd rfl hb1; replace hB := bstep hB hb1 (Nat.le_refl _); clear hb1))
    go_ret
    exact ⟨rfl, hB⟩)

set_option maxRecDepth 100000 in
set_option maxHeartbeats 3200000 in
theorem delta9_ok (k : Int) (s t : Sh) (B n c B' n' c' : Nat) (A A' : Option Addr) (bs rs : List UInt8) (w : World) (hp : RdB w B A n bs) (hr : RdB w B' A' n' rs)
    (hB1 : B ≤ w.heap.size) (hB2 : B' ≤ w.heap.size) (hk : k = 1 ∨ k = 2) (h0 : wrongR s t n n' = 0) :
    Calls Tryz.prog 40 #[.int .i64 k, s.r A n c, t.r A' n' c'] w fun e w' =>
      ∃ v, e = .returned (.tuple #[v, .int .i64 0]) ∧ ownB w' w.heap.size v (deltaB k bs rs) ∧ Below w.heap.size w w' := by
  have hB := Below.refl w.heap.size w
  have H1 := Lib.hid (fun w => pair9_any s t n c n' c' A A' w)
  have HZ := Lib.hid h0
  obtain ⟨-, -, hst, hnn, h16⟩ := wrongR_zero h0
  have hl := hr.len
  have hl' := hp.len
  have HL := Lib.hid (deltaB_len (k := k) (bs := bs) (rs := rs) (by omega))
  have HN := Lib.hid hnn
  have HE := Lib.hid hl
  have HE' := Lib.hid hl'
  clear hst h0 hl' hl
  have h16' : n' ≤ 16384 := by omega
  clear hnn
  obtain ⟨W, H, C, D⟩ := s
  obtain ⟨W', H', C', D'⟩ := t
  dsimp only [Sh.r] at H1
  show Calls _ _ #[.int .i64 k, .agg #[.int .i64 W, .int .i64 H, .int .i64 C, .int .i64 D, .slice A n c], .agg #[.int .i64 W', .int .i64 H', .int .i64 C', .int .i64 D', .slice A' n' c']] w _
  rcases hk with rfl | rfl
  · go_enter Tryz.func40, Tryz.ntmps40
    go_wp2_with (first
      | (go_at_call 79; (with_reducible refine (H1.out _).mono ?_); rintro e w1 ⟨rfl, hb1⟩; rw [HZ.out]; have dd := box5 hb1; rw [World.size_alloc] at dd; replace hb1 := bxd hb1; have cc := box5 hb1; replace hB := bxd hb1; clear hb1)
      | (at_make; refine wpList_makeB rfl _ _ rfl n' _ rfl rfl rfl (by omega) ?_; intro w2 hown hb1 hsz; have hg : w.heap.size + 1 < w1.heap.size := ltOf dd rfl; replace cc := kept cc rfl hb1; replace dd := kept dd rfl hb1; replace hB := bstep hB hb1 (Nat.le_refl _); clear hb1))
    generalize hgg : w1.heap.size = g at hown hsz hg
    clear hgg
    replace hown := hown.mono (base' := w.heap.size) (by omega)
    go_loopw [10] (fun i wr => ∃ k : Nat, k ≤ n' ∧ i = .int .i64 k ∧ ownB wr w.heap.size (.slice (some ⟨g, 0, none⟩) n' n') (fillTo (deltaB 1 bs rs) k) ∧ (∀ i, wr.cell? ⟨w.heap.size, i, none⟩ = r5 (.int .i64 W) (.int .i64 H) (.int .i64 C) (.int .i64 D) (.slice A n c) i) ∧ (∀ i, wr.cell? ⟨w.heap.size + 1, i, none⟩ = r5 (.int .i64 W') (.int .i64 H') (.int .i64 C') (.int .i64 D') (.slice A' n' c') i) ∧ Below w.heap.size w wr)
      (fun i _ => n' - (intOf i).toNat)
    case atStart => exact ⟨0, Nat.zero_le _, rfl, by rw [fillTo_zero, HL.out, HE.out]; exact hown, cc, dd, hB⟩
    case round =>
      clear cc dd hB hown hsz
      obtain ⟨k, hk, rfl, hown, cc, dd, hB⟩ := hrel
      by_cases hlt : k < n'
      · obtain ⟨b, o, x, rfl, hbo, hx, cx⟩ := (hp.blw (hB.mono hB1)).byte (k := k) (by rw [HN.out]; exact hlt)
        obtain ⟨b', o', y, rfl, hbo', hy, cy⟩ := (hr.blw (hB.mono hB2)).byte hlt
        have HF : Hid (n' = (fillTo (deltaB 1 bs rs) k).length) := by show _ = _; rw [fillTo_len _ _ (by rw [HL.out, HE.out]; exact hk), HL.out, HE.out]
        obtain ⟨d0, _, cd⟩ := hown.byte HF.out hlt
        have fd := hown.frozen HF.out k
        have Hs : Hid (ownB (wr.setCell ⟨g, k, none⟩ (.int .u8 ((dop 1 x y).toNat : Int))) w.heap.size (.slice (some ⟨g, 0, none⟩) n' n') (fillTo (deltaB 1 bs rs) (k + 1))) := by
          show ownB _ _ _ _
          rw [fillTo_put _ k _ (deltaB_at hx.out hy.out)]
          exact hown.store HF.out k _
        have hlt2 : k < n := by rw [HN.out]; exact hlt
        simp only [dop] at Hs
        have HX := Lib.hid (deltaB_at (k := 1) hx.out hy.out)
        clear hx hy
        go_wp2
        go_still_tail 14, (by kernel_rfl)
        go_wp2
        go_roundw
        case rel => exact ⟨k + 1, by omega, by go_num, by simpa only [dop, if_true, UInt8.toNat_xor] using Hs.out.drew, keptS cc (by show w.heap.size ≠ g; omega) _, keptS dd (by show w.heap.size + 1 ≠ g; omega) _, (hB.setCell (by show w.heap.size ≤ g; omega) _).drew⟩
        case measure => simp [intOf]; omega
      · have : k = n' := by omega
        subst this
        rw [show fillTo (deltaB 1 bs rs) k = deltaB 1 bs rs by have := fillTo_end (deltaB 1 bs rs); rwa [HL.out, HE.out] at this] at hown
        go_wp2
        go_ret2
        exact ⟨_, rfl, hown, hB⟩
  · go_enter Tryz.func40, Tryz.ntmps40
    go_wp2_with (first
      | (go_at_call 79; (with_reducible refine (H1.out _).mono ?_); rintro e w1 ⟨rfl, hb1⟩; rw [HZ.out]; have dd := box5 hb1; rw [World.size_alloc] at dd; replace hb1 := bxd hb1; have cc := box5 hb1; replace hB := bxd hb1; clear hb1)
      | (at_make; refine wpList_makeB rfl _ _ rfl n' _ rfl rfl rfl (by omega) ?_; intro w2 hown hb1 hsz; have hg : w.heap.size + 1 < w1.heap.size := ltOf dd rfl; replace cc := kept cc rfl hb1; replace dd := kept dd rfl hb1; replace hB := bstep hB hb1 (Nat.le_refl _); clear hb1))
    generalize hgg : w1.heap.size = g at hown hsz hg
    clear hgg
    replace hown := hown.mono (base' := w.heap.size) (by omega)
    go_loopw [10] (fun i wr => ∃ k : Nat, k ≤ n' ∧ i = .int .i64 k ∧ ownB wr w.heap.size (.slice (some ⟨g, 0, none⟩) n' n') (fillTo (deltaB 2 bs rs) k) ∧ (∀ i, wr.cell? ⟨w.heap.size, i, none⟩ = r5 (.int .i64 W) (.int .i64 H) (.int .i64 C) (.int .i64 D) (.slice A n c) i) ∧ (∀ i, wr.cell? ⟨w.heap.size + 1, i, none⟩ = r5 (.int .i64 W') (.int .i64 H') (.int .i64 C') (.int .i64 D') (.slice A' n' c') i) ∧ Below w.heap.size w wr)
      (fun i _ => n' - (intOf i).toNat)
    case atStart => exact ⟨0, Nat.zero_le _, rfl, by rw [fillTo_zero, HL.out, HE.out]; exact hown, cc, dd, hB⟩
    case round =>
      clear cc dd hB hown hsz
      obtain ⟨k, hk, rfl, hown, cc, dd, hB⟩ := hrel
      by_cases hlt : k < n'
      · obtain ⟨b, o, x, rfl, hbo, hx, cx⟩ := (hp.blw (hB.mono hB1)).byte (k := k) (by rw [HN.out]; exact hlt)
        obtain ⟨b', o', y, rfl, hbo', hy, cy⟩ := (hr.blw (hB.mono hB2)).byte hlt
        have HF : Hid (n' = (fillTo (deltaB 2 bs rs) k).length) := by show _ = _; rw [fillTo_len _ _ (by rw [HL.out, HE.out]; exact hk), HL.out, HE.out]
        obtain ⟨d0, _, cd⟩ := hown.byte HF.out hlt
        have fd := hown.frozen HF.out k
        have Hs : Hid (ownB (wr.setCell ⟨g, k, none⟩ (.int .u8 ((dop 2 x y).toNat : Int))) w.heap.size (.slice (some ⟨g, 0, none⟩) n' n') (fillTo (deltaB 2 bs rs) (k + 1))) := by
          show ownB _ _ _ _
          rw [fillTo_put _ k _ (deltaB_at hx.out hy.out)]
          exact hown.store HF.out k _
        have hlt2 : k < n := by rw [HN.out]; exact hlt
        simp only [dop] at Hs
        have HX := Lib.hid (deltaB_at (k := 2) hx.out hy.out)
        clear hx hy
        go_wp2
        go_still_tail 14, (by kernel_rfl)
        go_wp2
        have hv : ((y.toNat ^^^ x.toNat : Nat) : Int) = ((y ^^^ x).toNat : Int) := by rw [UInt8.toNat_xor]
        have hown2 := (hown.store HF.out k (y ^^^ x)).drew
        rw [← hv] at hown2
        have cc2 := keptS cc (p := ⟨g, k, none⟩) (by show w.heap.size ≠ g; omega) (.int .u8 ((y.toNat ^^^ x.toNat : Nat) : Int))
        have dd2 := keptS dd (p := ⟨g, k, none⟩) (by show w.heap.size + 1 ≠ g; omega) (.int .u8 ((y.toNat ^^^ x.toNat : Nat) : Int))
        have hB2 := (hB.setCell (p := ⟨g, k, none⟩) (by show w.heap.size ≤ g; omega) (.int .u8 ((y.toNat ^^^ x.toNat : Nat) : Int))).drew
        generalize hwm : (wr.setCell ⟨g, k, none⟩ (.int .u8 ((y.toNat ^^^ x.toNat : Nat) : Int))).drew = wm at hown2 hB2 ⊢
        replace cc2 : ∀ i, wm.cell? ⟨w.heap.size, i, none⟩ = r5 (.int .i64 W) (.int .i64 H) (.int .i64 C) (.int .i64 D) (.slice (some ⟨b, o, none⟩) n c) i := by rw [← hwm]; exact cc2
        replace dd2 : ∀ i, wm.cell? ⟨w.heap.size + 1, i, none⟩ = r5 (.int .i64 W') (.int .i64 H') (.int .i64 C') (.int .i64 D') (.slice (some ⟨b', o', none⟩) n' c') i := by rw [← hwm]; exact dd2
        replace cx : wm.cell? ⟨b, o + k, none⟩ = some (.int .u8 (x.toNat : Int)) := by rw [← hwm]; exact (World.cell?_setCell_other wr ⟨g, k, none⟩ ⟨b, o + k, none⟩ _ (by intro e; injection e with e; omega)).trans cx
        replace cy : wm.cell? ⟨b', o' + k, none⟩ = some (.int .u8 (y.toNat : Int)) := by rw [← hwm]; exact (World.cell?_setCell_other wr ⟨g, k, none⟩ ⟨b', o' + k, none⟩ _ (by intro e; injection e with e; omega)).trans cy
        have HF2 : Hid (n' = ((fillTo (deltaB 2 bs rs) k).set k (y ^^^ x)).length) := by show _ = _; rw [List.length_set]; exact HF.out
        obtain ⟨d1, _, cd1⟩ := hown2.byte HF2.out hlt
        have fd1 := hown2.frozen HF2.out k
        have Hs2 : Hid (ownB (wm.setCell ⟨g, k, none⟩ (.int .u8 ((dop 2 x y).toNat : Int))) w.heap.size (.slice (some ⟨g, 0, none⟩) n' n') (fillTo (deltaB 2 bs rs) (k + 1))) := by
          show ownB _ _ _ _
          rw [fillTo_put _ k _ HX.out, ← List.set_set (a := (y ^^^ x))]
          exact hown2.store HF2.out k _
        simp only [dop] at Hs2
        clear hwm cc dd hB fd cd hown hv
        go_still_tail 14, (by kernel_rfl)
        go_wp2
        go_roundw
        case rel => exact ⟨k + 1, by omega, by go_num, by simpa using Hs2.out.drew, keptS cc2 (by show w.heap.size ≠ g; omega) _, keptS dd2 (by show w.heap.size + 1 ≠ g; omega) _, (hB2.setCell (by show w.heap.size ≤ g; omega) _).drew⟩
        case measure => simp [intOf]; omega
      · have : k = n' := by omega
        subst this
        rw [show fillTo (deltaB 2 bs rs) k = deltaB 2 bs rs by have := fillTo_end (deltaB 2 bs rs); rwa [HL.out, HE.out] at this] at hown
        go_wp2
        go_ret2
        exact ⟨_, rfl, hown, hB⟩

set_option maxRecDepth 100000 in
set_option maxHeartbeats 1600000 in
theorem delta9_bad (k : Int) (s t : Sh) (n c n' c' : Nat) (A A' : Option Addr) (w : World) (E : Int) (hE : E = if k = 1 ∨ k = 2 then wrongR s t n n' else 1) (h0 : E ≠ 0) :
    Calls Tryz.prog 40 #[.int .i64 k, s.r A n c, t.r A' n' c'] w fun e w' =>
      e = .returned (.tuple #[.slice none 0 0, .int .i64 E]) ∧ Below w.heap.size w w' := by
  have hB := Below.refl w.heap.size w
  have H1 := Lib.hid (fun w => pair9_any s t n c n' c' A A' w)
  have hne : (E != 0) = true := by simpa using h0
  by_cases hk : k = 1 ∨ k = 2
  · rw [if_pos hk] at hE
    have HE := Lib.hid hE.symm
    clear hE h0
    obtain ⟨W, H, C, D⟩ := s
    obtain ⟨W', H', C', D'⟩ := t
    dsimp only [Sh.r] at H1
    show Calls _ _ #[.int .i64 k, .agg #[.int .i64 W, .int .i64 H, .int .i64 C, .int .i64 D, .slice A n c], .agg #[.int .i64 W', .int .i64 H', .int .i64 C', .int .i64 D', .slice A' n' c']] w _
    rcases hk with rfl | rfl
    all_goals
      go_enter Tryz.func40, Tryz.ntmps40
      go_wp2_with (go_at_call 79; (with_reducible refine (H1.out _).mono ?_); rintro e w1 ⟨rfl, hb1⟩; rw [HE.out]; replace hB := bxd (bxd hb1); clear hb1)
      go_ret2
      exact ⟨rfl, hB⟩
  · rw [if_neg hk] at hE
    subst hE
    clear h0 hne
    have d1 : (k != 1) = true := by rw [bne_iff_ne]; omega
    have d2 : (k != 2) = true := by rw [bne_iff_ne]; omega
    obtain ⟨W, H, C, D⟩ := s
    obtain ⟨W', H', C', D'⟩ := t
    show Calls _ _ #[.int .i64 k, .agg #[.int .i64 W, .int .i64 H, .int .i64 C, .int .i64 D, .slice A n c], .agg #[.int .i64 W', .int .i64 H', .int .i64 C', .int .i64 D', .slice A' n' c']] w _
    go_enter Tryz.func40, Tryz.ntmps40
    go_wp2
    go_ret2
    exact ⟨rfl, (hB.alloc (Nat.le_refl _) _).alloc (by simp) _⟩

theorem delta9_any (k : Int) (s t : Sh) (B n c B' n' c' : Nat) (A A' : Option Addr) (bs rs : List UInt8) (w : World) (hp : RdB w B A n bs) (hr : RdB w B' A' n' rs)
    (hB1 : B ≤ w.heap.size) (hB2 : B' ≤ w.heap.size) :
    Calls Tryz.prog 40 #[.int .i64 k, s.r A n c, t.r A' n' c'] w fun e w' =>
      ∃ v, e = .returned (.tuple #[v, .int .i64 (makeR k s t bs rs).2]) ∧ ownB w' w.heap.size v (makeR k s t bs rs).1 ∧ Below w.heap.size w w' := by
  have hl := hp.len
  have hl' := hr.len
  by_cases hk : k = 1 ∨ k = 2
  · by_cases h0 : wrongR s t n n' = 0
    · have e : makeR k s t bs rs = (deltaB k bs rs, 0) := by unfold makeR; rw [if_pos hk, hl, hl', if_pos h0]
      rw [e]
      exact delta9_ok k s t B n c B' n' c' A A' bs rs w hp hr hB1 hB2 hk h0
    · have e : makeR k s t bs rs = ([], wrongR s t n n') := by unfold makeR; rw [if_pos hk, hl, hl', if_neg h0]
      rw [e]
      refine (delta9_bad k s t n c n' c' A A' w _ (by rw [if_pos hk]) h0).mono ?_
      rintro e w' ⟨rfl, hb⟩
      exact ⟨_, rfl, ownB.nil_ _ _, hb⟩
  · have e : makeR k s t bs rs = ([], 1) := by unfold makeR; rw [if_neg hk]
    rw [e]
    refine (delta9_bad k s t n c n' c' A A' w 1 (by rw [if_neg hk]) (by decide)).mono ?_
    rintro e w' ⟨rfl, hb⟩
    exact ⟨_, rfl, ownB.nil_ _ _, hb⟩


end Go.Proofs.YteoolehdomjkkaaGreat

