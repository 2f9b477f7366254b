/-
  No cell of these rows narrows 'for every input' (looked for: loops, veiled, ifaces, maps, wideKeys, modest, calm, conditions, laid).
  DERIVED. THE GIVEN ROWS OF THIS SEAT. 5 by the template 'for every input the law returns true; each argument reads behind the call as it read before'; 0 by the template 'total and deterministic' (their statements: YthlbeifojmeamaaTotals.lean).
  GIVEN WITH THE SEED: the statements are not yours to turn. If you find one false, say at which input.
  Laid BY PROGRAM, IN A SANDBOX (cutbox-rows.mjs): the forced cells as the released guide's own fill.sh prints them over the translation e6e439c5344c57d3… (all of the seat's roots in one cut). By AI agents, Wed Nov 11 2026. No macro, syntax, notation, axiom, sorry.
-/
import Derived.Test.YthlbeifojmeamaaChecked
import GoSem.Claim
import GoSem.ClaimJoined
import GoSem.ClaimMapViews
import Derived.JoinedTies
import Derived.KernelRfl
namespace Go.Proofs.Ythlbeifojmeamaa
/- THE CELL 'sum', in the pinned program and in every row, IS THE sha256 OF THE DUMP (.gsa) THAT YthlbeifojmeamaaProg.lean LOADS. Nothing in Lean hashes anything: it is a label: what it is worth is what the hold of that sum in a sandbox is worth. -/
noncomputable def Try.pinned : Pinned := { name := "ythlbeifojmeamaa", sum := "e6e439c5344c57d3c6015cff0bd47a660f51b7d10d4682361f9a7c52d1efc168", checked := Try.checked }
namespace Rows
def none {H : Type} : Left H := { results := [], args := [] }

/-- 'aqulaw12.FiltPaeths': WHATEVER THE INPUT: true; the input reads as it did. -/
def filtPaethsSpec : ChangeSpec := { name := "filtPaeths", fn := fun _ => fun
  | [d1, d2, d3] => { results := [.lit (.bool true)], args := [d1, d2, d3] }
  | _ => none }
def filtPaethsRow : OpenClaim := { program := "ythlbeifojmeamaa", sum := "e6e439c5344c57d3c6015cff0bd47a660f51b7d10d4682361f9a7c52d1efc168", func := "aquatint/aqulaw12.FiltPaeths", spec := "filtPaeths", apart := false }
def FiltPaethsSaid : Prop := filtPaethsRow.holds Try.pinned (OpenSpec.ofChange filtPaethsSpec)

/-- ITS FALSE NEIGHBOUR: 'it returns false'. Refute it at one input. -/
def filtPaethsWrong : ChangeSpec := { name := "filtPaeths", fn := fun _ => fun
  | [d1, d2, d3] => { results := [.lit (.bool false)], args := [d1, d2, d3] }
  | _ => none }
def FiltPaethsWrongFalsely : Prop := filtPaethsRow.holds Try.pinned (OpenSpec.ofChange filtPaethsWrong)

/-- 'aqulaw12.FiltKinds': WHATEVER THE INPUT: true; the input reads as it did. -/
def filtKindsSpec : ChangeSpec := { name := "filtKinds", fn := fun _ => fun
  | [d1, d2] => { results := [.lit (.bool true)], args := [d1, d2] }
  | _ => none }
def filtKindsRow : OpenClaim := { program := "ythlbeifojmeamaa", sum := "e6e439c5344c57d3c6015cff0bd47a660f51b7d10d4682361f9a7c52d1efc168", func := "aquatint/aqulaw12.FiltKinds", spec := "filtKinds", apart := false }
def FiltKindsSaid : Prop := filtKindsRow.holds Try.pinned (OpenSpec.ofChange filtKindsSpec)

/-- ITS FALSE NEIGHBOUR: 'it returns false'. Refute it at one input. -/
def filtKindsWrong : ChangeSpec := { name := "filtKinds", fn := fun _ => fun
  | [d1, d2] => { results := [.lit (.bool false)], args := [d1, d2] }
  | _ => none }
def FiltKindsWrongFalsely : Prop := filtKindsRow.holds Try.pinned (OpenSpec.ofChange filtKindsWrong)

/-- 'aqulaw12.FiltNearest': WHATEVER THE INPUT: true; the input reads as it did. -/
def filtNearestSpec : ChangeSpec := { name := "filtNearest", fn := fun _ => fun
  | [d1, d2, d3] => { results := [.lit (.bool true)], args := [d1, d2, d3] }
  | _ => none }
def filtNearestRow : OpenClaim := { program := "ythlbeifojmeamaa", sum := "e6e439c5344c57d3c6015cff0bd47a660f51b7d10d4682361f9a7c52d1efc168", func := "aquatint/aqulaw12.FiltNearest", spec := "filtNearest", apart := false }
def FiltNearestSaid : Prop := filtNearestRow.holds Try.pinned (OpenSpec.ofChange filtNearestSpec)

/-- ITS FALSE NEIGHBOUR: 'it returns false'. Refute it at one input. -/
def filtNearestWrong : ChangeSpec := { name := "filtNearest", fn := fun _ => fun
  | [d1, d2, d3] => { results := [.lit (.bool false)], args := [d1, d2, d3] }
  | _ => none }
def FiltNearestWrongFalsely : Prop := filtNearestRow.holds Try.pinned (OpenSpec.ofChange filtNearestWrong)

/-- 'aqulaw12.FiltRows': WHATEVER THE INPUT: true; the input reads as it did. -/
def filtRowsSpec : ChangeSpec := { name := "filtRows", fn := fun _ => fun
  | [d1, d2, d3, d4] => { results := [.lit (.bool true)], args := [d1, d2, d3, d4] }
  | _ => none }
def filtRowsRow : OpenClaim := { program := "ythlbeifojmeamaa", sum := "e6e439c5344c57d3c6015cff0bd47a660f51b7d10d4682361f9a7c52d1efc168", func := "aquatint/aqulaw12.FiltRows", spec := "filtRows", apart := false }
def FiltRowsSaid : Prop := filtRowsRow.holds Try.pinned (OpenSpec.ofChange filtRowsSpec)

/-- ITS FALSE NEIGHBOUR: 'it returns false'. Refute it at one input. -/
def filtRowsWrong : ChangeSpec := { name := "filtRows", fn := fun _ => fun
  | [d1, d2, d3, d4] => { results := [.lit (.bool false)], args := [d1, d2, d3, d4] }
  | _ => none }
def FiltRowsWrongFalsely : Prop := filtRowsRow.holds Try.pinned (OpenSpec.ofChange filtRowsWrong)

/-- 'aqulaw12.FiltBack': WHATEVER THE INPUT: true; the input reads as it did. -/
def filtBackSpec : ChangeSpec := { name := "filtBack", fn := fun _ => fun
  | [d1, d2, d3] => { results := [.lit (.bool true)], args := [d1, d2, d3] }
  | _ => none }
def filtBackRow : OpenClaim := { program := "ythlbeifojmeamaa", sum := "e6e439c5344c57d3c6015cff0bd47a660f51b7d10d4682361f9a7c52d1efc168", func := "aquatint/aqulaw12.FiltBack", spec := "filtBack", apart := false }
def FiltBackSaid : Prop := filtBackRow.holds Try.pinned (OpenSpec.ofChange filtBackSpec)

/-- ITS FALSE NEIGHBOUR: 'it returns false'. Refute it at one input. -/
def filtBackWrong : ChangeSpec := { name := "filtBack", fn := fun _ => fun
  | [d1, d2, d3] => { results := [.lit (.bool false)], args := [d1, d2, d3] }
  | _ => none }
def FiltBackWrongFalsely : Prop := filtBackRow.holds Try.pinned (OpenSpec.ofChange filtBackWrong)

/- THE SECOND FORM. 'bulk': how many values and letters a reading holds, each counted each time it is reached (what is shared counts as often as it is met; a slice's spare places count too). A statement '..UptoSaid' is the law's where the arguments, and the package variables that the reading takes, are together of bulk at most 1048576: NARROWER than '..Said'. Prove '..Said' where nothing that the law and all that it calls make is longer than what came in: it says more and counts as full. Else prove '..UptoSaid'. A law counts once. -/
mutual
def uptoBulk {H : Type} : DataW H → Nat
  | .lit (.string bytes) => bytes.length + 1
  | .lit _ => 1
  | .nil => 1
  | .ptr d => uptoBulk d + 1
  | .slice elems spare => uptoBulkAll elems + uptoBulkAll spare + 1
  | .agg parts => uptoBulkAll parts + 1
  | .iface _ d => uptoBulk d + 1
  | .map entries => uptoBulkEntries entries + 1
  | .held _ => 1
def uptoBulkAll {H : Type} : List (DataW H) → Nat
  | [] => 0
  | d :: r => uptoBulk d + uptoBulkAll r
def uptoBulkEntries {H : Type} : List (Lit × DataW H) → Nat
  | [] => 0
  | x :: r => uptoBulkEntry x + uptoBulkEntries r
def uptoBulkEntry {H : Type} : Lit × DataW H → Nat
  | (.string bytes, d) => bytes.length + uptoBulk d + 1
  | (_, d) => uptoBulk d + 1
 end
def uptoSmall : (H : Type) → List (DataW H) → Bool := fun _ ds => decide (uptoBulkAll ds ≤ 1048576)
def OpenSpec.upto (s : _root_.Go.ChangeSpec) : _root_.Go.OpenSpec := { _root_.Go.OpenSpec.ofChange s with cond := some uptoSmall }

/-- 'aqulaw12.FiltPaeths', WHERE WHAT IT READS IS OF BULK AT MOST 1048576: true; the input reads as it did. -/
def filtPaethsUptoRow : OpenClaim := { program := "ythlbeifojmeamaa", sum := "e6e439c5344c57d3c6015cff0bd47a660f51b7d10d4682361f9a7c52d1efc168", func := "aquatint/aqulaw12.FiltPaeths", spec := "filtPaeths", apart := false, narrowed := true }
def FiltPaethsUptoSaid : Prop := filtPaethsUptoRow.holds Try.pinned (OpenSpec.upto filtPaethsSpec)

/-- 'aqulaw12.FiltKinds', WHERE WHAT IT READS IS OF BULK AT MOST 1048576: true; the input reads as it did. -/
def filtKindsUptoRow : OpenClaim := { program := "ythlbeifojmeamaa", sum := "e6e439c5344c57d3c6015cff0bd47a660f51b7d10d4682361f9a7c52d1efc168", func := "aquatint/aqulaw12.FiltKinds", spec := "filtKinds", apart := false, narrowed := true }
def FiltKindsUptoSaid : Prop := filtKindsUptoRow.holds Try.pinned (OpenSpec.upto filtKindsSpec)

/-- 'aqulaw12.FiltNearest', WHERE WHAT IT READS IS OF BULK AT MOST 1048576: true; the input reads as it did. -/
def filtNearestUptoRow : OpenClaim := { program := "ythlbeifojmeamaa", sum := "e6e439c5344c57d3c6015cff0bd47a660f51b7d10d4682361f9a7c52d1efc168", func := "aquatint/aqulaw12.FiltNearest", spec := "filtNearest", apart := false, narrowed := true }
def FiltNearestUptoSaid : Prop := filtNearestUptoRow.holds Try.pinned (OpenSpec.upto filtNearestSpec)

/-- 'aqulaw12.FiltRows', WHERE WHAT IT READS IS OF BULK AT MOST 1048576: true; the input reads as it did. -/
def filtRowsUptoRow : OpenClaim := { program := "ythlbeifojmeamaa", sum := "e6e439c5344c57d3c6015cff0bd47a660f51b7d10d4682361f9a7c52d1efc168", func := "aquatint/aqulaw12.FiltRows", spec := "filtRows", apart := false, narrowed := true }
def FiltRowsUptoSaid : Prop := filtRowsUptoRow.holds Try.pinned (OpenSpec.upto filtRowsSpec)

/-- 'aqulaw12.FiltBack', WHERE WHAT IT READS IS OF BULK AT MOST 1048576: true; the input reads as it did. -/
def filtBackUptoRow : OpenClaim := { program := "ythlbeifojmeamaa", sum := "e6e439c5344c57d3c6015cff0bd47a660f51b7d10d4682361f9a7c52d1efc168", func := "aquatint/aqulaw12.FiltBack", spec := "filtBack", apart := false, narrowed := true }
def FiltBackUptoSaid : Prop := filtBackUptoRow.holds Try.pinned (OpenSpec.upto filtBackSpec)

end Rows
end Go.Proofs.Ythlbeifojmeamaa
