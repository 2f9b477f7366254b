/- lz: a map of places by three bytes. -/
import Derived.Test.YtcancpnepfnhmaaMa01
import Derived.Test.YtcancpnepfnhmaaMa09
import Derived.Maps.OwnSet
import Derived.DeepKeys5
namespace Go.Proofs.Ytcancpnepfnhmaa
set_option linter.all false
open Go.RowKit Go.Maps Go.WideElems Go.WideShapes

abbrev MD3 := DataW Value
/-- Three bytes as a value. -/
def triV (t : UInt8 × UInt8 × UInt8) : Value := .agg #[.int .u8 (t.1.toNat : Int), .int .u8 (t.2.1.toNat : Int), .int .u8 (t.2.2.toNat : Int)]
theorem triV_inj {s t : UInt8 × UInt8 × UInt8} (h : triV s = triV t) : s = t := by
  obtain ⟨a, b, c⟩ := s
  obtain ⟨d, e, f⟩ := t
  simp only [triV, Value.agg.injEq, Array.mk.injEq, List.cons.injEq, Value.int.injEq, and_true, true_and, Int.natCast_inj, UInt8.toNat_inj] at h
  obtain ⟨h1, h2, h3⟩ := h
  subst h1 h2 h3
  rfl
/-- An element reads as itself. -/
def held3 (v : Value) : Option (MD3 × List MemPlace) := some (.held v, [])
theorem keyed3 : Keyed Try.prog 142 := Keyed.of_law (deep_law_gate (by kernel_rfl) (of_decide_eq_true (by kernel_rfl)) (of_decide_eq_true (by kernel_rfl)) (by kernel_rfl) (by kernel_rfl))
theorem zeroI0 (w : World) : (zeroValue 3).run Try.prog w = .ok (.int .i64 0) w := by kernel_rfl
theorem key3_gen {P : Program} {k e : TypeId} {n : Nat} (hu : P.underlying k = some (.array 3 e)) (he : P.underlying e = some (.int .u8)) (hk : P.keyType k = true) (hc : P.cellsOf k = 3) (hc1 : P.cellsOf e = 1) (hs : P.types.size = n + 1) (a b c : UInt8) :
    ∃ l, keyOf P k (.agg #[.int .u8 (a.toNat : Int), .int .u8 (b.toNat : Int), .int .u8 (c.toNat : Int)]) = some l := by
  have hf : Value.formed P k (.agg #[.int .u8 (a.toNat : Int), .int .u8 (b.toNat : Int), .int .u8 (c.toNat : Int)]) = true := by simp [Value.formed, hu, hc]
  have hw : ∀ a : UInt8, P.keyLits (n + 1) e [.int .u8 (a.toNat : Int)] = some [.int .u8 (a.toNat : Int)] := fun a => by
    have h1 := a.toNat_lt
    have h2 : (Lit.int .u8 (a.toNat : Int)).wf = true := by
      simp [Lit.wf, IntKind.min, IntKind.max, IntKind.bits, IntKind.signed]; omega
    rw [Program.keyLits.eq_def]
    simp [he, h2]
  have hL : P.keyLits (P.types.size + 1) k [.int .u8 (a.toNat : Int), .int .u8 (b.toNat : Int), .int .u8 (c.toNat : Int)] = some [.int .u8 (a.toNat : Int), .int .u8 (b.toNat : Int), .int .u8 (c.toNat : Int)] := by
    rw [hs]
    rw [Program.keyLits.eq_def]
    simp [hu, hc, hc1, List.range, List.range.loop, hw]
  have hL2 : keyOf P k (.agg #[.int .u8 (a.toNat : Int), .int .u8 (b.toNat : Int), .int .u8 (c.toNat : Int)]) = (P.keyLits (P.types.size + 1) k [.int .u8 (a.toNat : Int), .int .u8 (b.toNat : Int), .int .u8 (c.toNat : Int)]).map fun ls => .string (keyBytes ls) := by
    unfold keyOf
    rw [hu]
    simp only [hk, hf, Bool.and_self, if_true, Value.cells]
  exact ⟨_, by rw [hL2, hL]; rfl⟩
theorem key3_is (t : UInt8 × UInt8 × UInt8) : ∃ l, keyOf Try.prog 142 (triV t) = some l :=
  key3_gen (e := 5) (n := Try.prog.types.size - 1) (by kernel_rfl) (by kernel_rfl) (by kernel_rfl) (by kernel_rfl) (by kernel_rfl) (by kernel_rfl) t.1 t.2.1 t.2.2
/-- Block b is a map that says f of three bytes. -/
def isM3 (w : World) (b m : Nat) (f : UInt8 × UInt8 × UInt8 → Nat) : Prop :=
  ∃ D : MD3, w.ownsMap Try.prog 142 held3 b m D ∧ ∀ t l, keyOf Try.prog 142 (triV t) = some l → D.atKey l (.held (.int .i64 0)) = .held (.int .i64 ((f t : Nat) : Int))
theorem isM3.made (w : World) : isM3 (w.alloc (.map #[] 0)) w.heap.size 0 (fun _ => 0) :=
  ⟨_, World.ownsMap_made w Try.prog 142 held3, fun t l _ => rfl⟩
theorem isM3.lt {w : World} {b m : Nat} {f : UInt8 × UInt8 × UInt8 → Nat} (h : isM3 w b m f) : b < w.heap.size := by
  obtain ⟨D, h, _⟩ := h
  exact h.lt
theorem isM3.keep {w w' : World} {b m : Nat} {f : UInt8 × UInt8 × UInt8 → Nat} (h : isM3 w b m f) (hb : w'.heap[b]? = w.heap[b]?) : isM3 w' b m f := by
  obtain ⟨D, ⟨es, clock, e, F, hs, hD⟩, h2⟩ := h
  exact ⟨D, ⟨es, clock, hb.trans e, F, hs, hD⟩, h2⟩
set_option maxRecDepth 100000 in
theorem isM3.look {w : World} {b m : Nat} {f : UInt8 × UInt8 × UInt8 → Nat} (h : isM3 w b m f) (t : UInt8 × UInt8 × UInt8) :
    (Instr.lookup 97 (.map (some b)) (triV t) false).run Try.prog w = .ok (.int .i64 ((f t : Nat) : Int)) w := by
  obtain ⟨D, hD, h1⟩ := h
  obtain ⟨l, hl⟩ := key3_is t
  obtain ⟨v, ps, hrun, hv⟩ := hD.lookup keyed3 Try.underlying97 (zeroI0 w) (zd := .held (.int .i64 0)) (zp := []) rfl hl
  have e0 : DataW.held v = D.atKey l (.held (.int .i64 0)) := congrArg Prod.fst (Option.some.inj hv)
  rw [h1 t l hl] at e0
  injection e0 with e0
  rw [hrun, e0]
def updT (f : UInt8 × UInt8 × UInt8 → Nat) (t : UInt8 × UInt8 × UInt8) (v : Nat) : UInt8 × UInt8 × UInt8 → Nat := fun s => if t = s then v else f s
set_option maxRecDepth 100000 in
theorem isM3.store {w : World} {b m : Nat} {f : UInt8 × UInt8 × UInt8 → Nat} (h : isM3 w b m f) (hm : m ≤ 1000000) (t : UInt8 × UInt8 × UInt8) (v : Nat) :
    ∃ w', (Instr.mapUpdate 97 (.map (some b)) (triV t) (.int .i64 (v : Int))).run Try.prog w = .ok () w' ∧ isM3 w' b (m + 1) (updT f t v) ∧ w.grownBy w' (some b) := by
  obtain ⟨D, hD, h1⟩ := h
  obtain ⟨l, hl⟩ := key3_is t
  obtain ⟨w', hrun, hown, ht⟩ := hD.update keyed3 Try.underlying97 (by unfold maxLen; omega) hl (val := .int .i64 (v : Int)) rfl
  refine ⟨w', hrun, ⟨_, hown, fun s l2 hl2 => ?_⟩, ht⟩
  by_cases e : t = s
  · subst e
    rw [hl] at hl2
    injection hl2 with hl2
    subst hl2
    rw [Maps.atKey_put_same hD.isMap (keyed3.key hl)]
    unfold updT
    rw [if_pos rfl]
  · have hne : l2 ≠ l := fun e2 => by
      subst e2
      exact e (triV_inj (keyed3.inj hl hl2))
    rw [Maps.atKey_put_other hne, h1 s l2 hl2]
    unfold updT
    rw [if_neg e]
end Go.Proofs.Ytcancpnepfnhmaa
