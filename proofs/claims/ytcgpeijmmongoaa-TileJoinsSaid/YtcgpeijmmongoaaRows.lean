/-
  No cell of these rows narrows 'for every input' (looked for: loops, veiled, ifaces, maps, wideKeys, modest, calm, conditions, laid).
  DERIVED. THE GIVEN ROWS OF THIS SEAT. 12 by the template 'for every input the law returns true; each argument reads behind the call as it read before'; 0 by the template 'total and deterministic' (their statements: YtcgpeijmmongoaaTotals.lean).
  GIVEN WITH THE SEED: the statements are not yours to turn. If you find one false, say at which input.
  Laid BY PROGRAM, IN A SANDBOX (cutbox-rows.mjs): the forced cells as the released guide's own fill.sh prints them over the translation aee395a29734bc4d… (all of the seat's roots in one cut). By AI agents, Wed Nov 11 2026. No macro, syntax, notation, axiom, sorry.
-/
import Derived.Test.YtcgpeijmmongoaaChecked
import GoSem.Claim
import GoSem.ClaimJoined
import GoSem.ClaimMapViews
import Derived.JoinedTies
import Derived.KernelRfl
namespace Go.Proofs.Ytcgpeijmmongoaa
/- THE CELL 'sum', in the pinned program and in every row, IS THE sha256 OF THE DUMP (.gsa) THAT YtcgpeijmmongoaaProg.lean LOADS. Nothing in Lean hashes anything: it is a label: what it is worth is what the hold of that sum in a sandbox is worth. -/
noncomputable def Try.pinned : Pinned := { name := "ytcgpeijmmongoaa", sum := "aee395a29734bc4d5860c8ad3bc2b649d64522a05bd05ae11a2fa4ea544ecfd7", checked := Try.checked }
namespace Rows
def none {H : Type} : Left H := { results := [], args := [] }

/-- 'aqulaw10.TileShapes': WHATEVER THE INPUT: true; the input reads as it did. -/
def tileShapesSpec : ChangeSpec := { name := "tileShapes", fn := fun _ => fun
  | [d] => { results := [.lit (.bool true)], args := [d] }
  | _ => none }
def tileShapesRow : OpenClaim := { program := "ytcgpeijmmongoaa", sum := "aee395a29734bc4d5860c8ad3bc2b649d64522a05bd05ae11a2fa4ea544ecfd7", func := "aquatint/aqulaw10.TileShapes", spec := "tileShapes", apart := false }
def TileShapesSaid : Prop := tileShapesRow.holds Try.pinned (OpenSpec.ofChange tileShapesSpec)

/-- ITS FALSE NEIGHBOUR: 'it returns false'. Refute it at one input. -/
def tileShapesWrong : ChangeSpec := { name := "tileShapes", fn := fun _ => fun
  | [d] => { results := [.lit (.bool false)], args := [d] }
  | _ => none }
def TileShapesWrongFalsely : Prop := tileShapesRow.holds Try.pinned (OpenSpec.ofChange tileShapesWrong)

/-- 'aqulaw11.DiffChains': WHATEVER THE INPUT: true; the input reads as it did. -/
def diffChainsSpec : ChangeSpec := { name := "diffChains", fn := fun _ => fun
  | [d1, d2, d3] => { results := [.lit (.bool true)], args := [d1, d2, d3] }
  | _ => none }
def diffChainsRow : OpenClaim := { program := "ytcgpeijmmongoaa", sum := "aee395a29734bc4d5860c8ad3bc2b649d64522a05bd05ae11a2fa4ea544ecfd7", func := "aquatint/aqulaw11.DiffChains", spec := "diffChains", apart := false }
def DiffChainsSaid : Prop := diffChainsRow.holds Try.pinned (OpenSpec.ofChange diffChainsSpec)

/-- ITS FALSE NEIGHBOUR: 'it returns false'. Refute it at one input. -/
def diffChainsWrong : ChangeSpec := { name := "diffChains", fn := fun _ => fun
  | [d1, d2, d3] => { results := [.lit (.bool false)], args := [d1, d2, d3] }
  | _ => none }
def DiffChainsWrongFalsely : Prop := diffChainsRow.holds Try.pinned (OpenSpec.ofChange diffChainsWrong)

/-- 'aqulaw10.TileCuts': WHATEVER THE INPUT: true; the input reads as it did. -/
def tileCutsSpec : ChangeSpec := { name := "tileCuts", fn := fun _ => fun
  | [d1, d2] => { results := [.lit (.bool true)], args := [d1, d2] }
  | _ => none }
def tileCutsRow : OpenClaim := { program := "ytcgpeijmmongoaa", sum := "aee395a29734bc4d5860c8ad3bc2b649d64522a05bd05ae11a2fa4ea544ecfd7", func := "aquatint/aqulaw10.TileCuts", spec := "tileCuts", unfollowed := true, recurses := true, apart := false }
def TileCutsSaid : Prop := tileCutsRow.holds Try.pinned (OpenSpec.ofChange tileCutsSpec)

/-- ITS FALSE NEIGHBOUR: 'it returns false'. Refute it at one input. -/
def tileCutsWrong : ChangeSpec := { name := "tileCuts", fn := fun _ => fun
  | [d1, d2] => { results := [.lit (.bool false)], args := [d1, d2] }
  | _ => none }
def TileCutsWrongFalsely : Prop := tileCutsRow.holds Try.pinned (OpenSpec.ofChange tileCutsWrong)

/-- 'aqulaw10.TileJoins': WHATEVER THE INPUT: true; the input reads as it did. -/
def tileJoinsSpec : ChangeSpec := { name := "tileJoins", fn := fun _ => fun
  | [d1, d2] => { results := [.lit (.bool true)], args := [d1, d2] }
  | _ => none }
def tileJoinsRow : OpenClaim := { program := "ytcgpeijmmongoaa", sum := "aee395a29734bc4d5860c8ad3bc2b649d64522a05bd05ae11a2fa4ea544ecfd7", func := "aquatint/aqulaw10.TileJoins", spec := "tileJoins", unfollowed := true, recurses := true, apart := false }
def TileJoinsSaid : Prop := tileJoinsRow.holds Try.pinned (OpenSpec.ofChange tileJoinsSpec)

/-- ITS FALSE NEIGHBOUR: 'it returns false'. Refute it at one input. -/
def tileJoinsWrong : ChangeSpec := { name := "tileJoins", fn := fun _ => fun
  | [d1, d2] => { results := [.lit (.bool false)], args := [d1, d2] }
  | _ => none }
def TileJoinsWrongFalsely : Prop := tileJoinsRow.holds Try.pinned (OpenSpec.ofChange tileJoinsWrong)

/-- 'aqulaw9.PixRows': WHATEVER THE INPUT: true; the input reads as it did. -/
def pixRowsSpec : ChangeSpec := { name := "pixRows", fn := fun _ => fun
  | [d1, d2, d3, d4] => { results := [.lit (.bool true)], args := [d1, d2, d3, d4] }
  | _ => none }
def pixRowsRow : OpenClaim := { program := "ytcgpeijmmongoaa", sum := "aee395a29734bc4d5860c8ad3bc2b649d64522a05bd05ae11a2fa4ea544ecfd7", func := "aquatint/aqulaw9.PixRows", spec := "pixRows", apart := false }
def PixRowsSaid : Prop := pixRowsRow.holds Try.pinned (OpenSpec.ofChange pixRowsSpec)

/-- ITS FALSE NEIGHBOUR: 'it returns false'. Refute it at one input. -/
def pixRowsWrong : ChangeSpec := { name := "pixRows", fn := fun _ => fun
  | [d1, d2, d3, d4] => { results := [.lit (.bool false)], args := [d1, d2, d3, d4] }
  | _ => none }
def PixRowsWrongFalsely : Prop := pixRowsRow.holds Try.pinned (OpenSpec.ofChange pixRowsWrong)

/-- 'aqulaw10.TileOnes': WHATEVER THE INPUT: true; the input reads as it did. -/
def tileOnesSpec : ChangeSpec := { name := "tileOnes", fn := fun _ => fun
  | [d1, d2, d3] => { results := [.lit (.bool true)], args := [d1, d2, d3] }
  | _ => none }
def tileOnesRow : OpenClaim := { program := "ytcgpeijmmongoaa", sum := "aee395a29734bc4d5860c8ad3bc2b649d64522a05bd05ae11a2fa4ea544ecfd7", func := "aquatint/aqulaw10.TileOnes", spec := "tileOnes", unfollowed := true, recurses := true, apart := false }
def TileOnesSaid : Prop := tileOnesRow.holds Try.pinned (OpenSpec.ofChange tileOnesSpec)

/-- ITS FALSE NEIGHBOUR: 'it returns false'. Refute it at one input. -/
def tileOnesWrong : ChangeSpec := { name := "tileOnes", fn := fun _ => fun
  | [d1, d2, d3] => { results := [.lit (.bool false)], args := [d1, d2, d3] }
  | _ => none }
def TileOnesWrongFalsely : Prop := tileOnesRow.holds Try.pinned (OpenSpec.ofChange tileOnesWrong)

/-- 'aqulaw11.DiffMakes': WHATEVER THE INPUT: true; the input reads as it did. -/
def diffMakesSpec : ChangeSpec := { name := "diffMakes", fn := fun _ => fun
  | [d1, d2, d3, d4] => { results := [.lit (.bool true)], args := [d1, d2, d3, d4] }
  | _ => none }
def diffMakesRow : OpenClaim := { program := "ytcgpeijmmongoaa", sum := "aee395a29734bc4d5860c8ad3bc2b649d64522a05bd05ae11a2fa4ea544ecfd7", func := "aquatint/aqulaw11.DiffMakes", spec := "diffMakes", apart := false }
def DiffMakesSaid : Prop := diffMakesRow.holds Try.pinned (OpenSpec.ofChange diffMakesSpec)

/-- ITS FALSE NEIGHBOUR: 'it returns false'. Refute it at one input. -/
def diffMakesWrong : ChangeSpec := { name := "diffMakes", fn := fun _ => fun
  | [d1, d2, d3, d4] => { results := [.lit (.bool false)], args := [d1, d2, d3, d4] }
  | _ => none }
def DiffMakesWrongFalsely : Prop := diffMakesRow.holds Try.pinned (OpenSpec.ofChange diffMakesWrong)

/-- 'aqulaw9.PixBytes': WHATEVER THE INPUT: true; the input reads as it did. -/
def pixBytesSpec : ChangeSpec := { name := "pixBytes", fn := fun _ => fun
  | [d1, d2] => { results := [.lit (.bool true)], args := [d1, d2] }
  | _ => none }
def pixBytesRow : OpenClaim := { program := "ytcgpeijmmongoaa", sum := "aee395a29734bc4d5860c8ad3bc2b649d64522a05bd05ae11a2fa4ea544ecfd7", func := "aquatint/aqulaw9.PixBytes", spec := "pixBytes", apart := false }
def PixBytesSaid : Prop := pixBytesRow.holds Try.pinned (OpenSpec.ofChange pixBytesSpec)

/-- ITS FALSE NEIGHBOUR: 'it returns false'. Refute it at one input. -/
def pixBytesWrong : ChangeSpec := { name := "pixBytes", fn := fun _ => fun
  | [d1, d2] => { results := [.lit (.bool false)], args := [d1, d2] }
  | _ => none }
def PixBytesWrongFalsely : Prop := pixBytesRow.holds Try.pinned (OpenSpec.ofChange pixBytesWrong)

/-- 'aqulaw9.PixBack': WHATEVER THE INPUT: true; the input reads as it did. -/
def pixBackSpec : ChangeSpec := { name := "pixBack", fn := fun _ => fun
  | [d1, d2] => { results := [.lit (.bool true)], args := [d1, d2] }
  | _ => none }
def pixBackRow : OpenClaim := { program := "ytcgpeijmmongoaa", sum := "aee395a29734bc4d5860c8ad3bc2b649d64522a05bd05ae11a2fa4ea544ecfd7", func := "aquatint/aqulaw9.PixBack", spec := "pixBack", apart := false }
def PixBackSaid : Prop := pixBackRow.holds Try.pinned (OpenSpec.ofChange pixBackSpec)

/-- ITS FALSE NEIGHBOUR: 'it returns false'. Refute it at one input. -/
def pixBackWrong : ChangeSpec := { name := "pixBack", fn := fun _ => fun
  | [d1, d2] => { results := [.lit (.bool false)], args := [d1, d2] }
  | _ => none }
def PixBackWrongFalsely : Prop := pixBackRow.holds Try.pinned (OpenSpec.ofChange pixBackWrong)

/-- 'aqulaw9.PixSets': WHATEVER THE INPUT: true; the input reads as it did. -/
def pixSetsSpec : ChangeSpec := { name := "pixSets", fn := fun _ => fun
  | [d1, d2, d3, d4, d5, d6, d7, d8] => { results := [.lit (.bool true)], args := [d1, d2, d3, d4, d5, d6, d7, d8] }
  | _ => none }
def pixSetsRow : OpenClaim := { program := "ytcgpeijmmongoaa", sum := "aee395a29734bc4d5860c8ad3bc2b649d64522a05bd05ae11a2fa4ea544ecfd7", func := "aquatint/aqulaw9.PixSets", spec := "pixSets", apart := false }
def PixSetsSaid : Prop := pixSetsRow.holds Try.pinned (OpenSpec.ofChange pixSetsSpec)

/-- ITS FALSE NEIGHBOUR: 'it returns false'. Refute it at one input. -/
def pixSetsWrong : ChangeSpec := { name := "pixSets", fn := fun _ => fun
  | [d1, d2, d3, d4, d5, d6, d7, d8] => { results := [.lit (.bool false)], args := [d1, d2, d3, d4, d5, d6, d7, d8] }
  | _ => none }
def PixSetsWrongFalsely : Prop := pixSetsRow.holds Try.pinned (OpenSpec.ofChange pixSetsWrong)

/-- 'aqulaw9.PixAsks': WHATEVER THE INPUT: true; the input reads as it did. -/
def pixAsksSpec : ChangeSpec := { name := "pixAsks", fn := fun _ => fun
  | [d1, d2, d3, d4, d5, d6] => { results := [.lit (.bool true)], args := [d1, d2, d3, d4, d5, d6] }
  | _ => none }
def pixAsksRow : OpenClaim := { program := "ytcgpeijmmongoaa", sum := "aee395a29734bc4d5860c8ad3bc2b649d64522a05bd05ae11a2fa4ea544ecfd7", func := "aquatint/aqulaw9.PixAsks", spec := "pixAsks", apart := false }
def PixAsksSaid : Prop := pixAsksRow.holds Try.pinned (OpenSpec.ofChange pixAsksSpec)

/-- ITS FALSE NEIGHBOUR: 'it returns false'. Refute it at one input. -/
def pixAsksWrong : ChangeSpec := { name := "pixAsks", fn := fun _ => fun
  | [d1, d2, d3, d4, d5, d6] => { results := [.lit (.bool false)], args := [d1, d2, d3, d4, d5, d6] }
  | _ => none }
def PixAsksWrongFalsely : Prop := pixAsksRow.holds Try.pinned (OpenSpec.ofChange pixAsksWrong)

/-- 'aqulaw10.TileBack': WHATEVER THE INPUT: true; the input reads as it did. -/
def tileBackSpec : ChangeSpec := { name := "tileBack", fn := fun _ => fun
  | [d1, d2, d3, d4] => { results := [.lit (.bool true)], args := [d1, d2, d3, d4] }
  | _ => none }
def tileBackRow : OpenClaim := { program := "ytcgpeijmmongoaa", sum := "aee395a29734bc4d5860c8ad3bc2b649d64522a05bd05ae11a2fa4ea544ecfd7", func := "aquatint/aqulaw10.TileBack", spec := "tileBack", unfollowed := true, recurses := true, apart := false }
def TileBackSaid : Prop := tileBackRow.holds Try.pinned (OpenSpec.ofChange tileBackSpec)

/-- ITS FALSE NEIGHBOUR: 'it returns false'. Refute it at one input. -/
def tileBackWrong : ChangeSpec := { name := "tileBack", fn := fun _ => fun
  | [d1, d2, d3, d4] => { results := [.lit (.bool false)], args := [d1, d2, d3, d4] }
  | _ => none }
def TileBackWrongFalsely : Prop := tileBackRow.holds Try.pinned (OpenSpec.ofChange tileBackWrong)

/- THE SECOND FORM. 'bulk': how many values and letters a reading holds, each counted each time it is reached (what is shared counts as often as it is met; a slice's spare places count too). A statement '..UptoSaid' is the law's where the arguments, and the package variables that the reading takes, are together of bulk at most 1048576: NARROWER than '..Said'. Prove '..Said' where nothing that the law and all that it calls make is longer than what came in: it says more and counts as full. Else prove '..UptoSaid'. A law counts once. -/
mutual
def uptoBulk {H : Type} : DataW H → Nat
  | .lit (.string bytes) => bytes.length + 1
  | .lit _ => 1
  | .nil => 1
  | .ptr d => uptoBulk d + 1
  | .slice elems spare => uptoBulkAll elems + uptoBulkAll spare + 1
  | .agg parts => uptoBulkAll parts + 1
  | .iface _ d => uptoBulk d + 1
  | .map entries => uptoBulkEntries entries + 1
  | .held _ => 1
def uptoBulkAll {H : Type} : List (DataW H) → Nat
  | [] => 0
  | d :: r => uptoBulk d + uptoBulkAll r
def uptoBulkEntries {H : Type} : List (Lit × DataW H) → Nat
  | [] => 0
  | x :: r => uptoBulkEntry x + uptoBulkEntries r
def uptoBulkEntry {H : Type} : Lit × DataW H → Nat
  | (.string bytes, d) => bytes.length + uptoBulk d + 1
  | (_, d) => uptoBulk d + 1
 end
def uptoSmall : (H : Type) → List (DataW H) → Bool := fun _ ds => decide (uptoBulkAll ds ≤ 1048576)
def OpenSpec.upto (s : _root_.Go.ChangeSpec) : _root_.Go.OpenSpec := { _root_.Go.OpenSpec.ofChange s with cond := some uptoSmall }

/-- 'aqulaw10.TileShapes', WHERE WHAT IT READS IS OF BULK AT MOST 1048576: true; the input reads as it did. -/
def tileShapesUptoRow : OpenClaim := { program := "ytcgpeijmmongoaa", sum := "aee395a29734bc4d5860c8ad3bc2b649d64522a05bd05ae11a2fa4ea544ecfd7", func := "aquatint/aqulaw10.TileShapes", spec := "tileShapes", apart := false, narrowed := true }
def TileShapesUptoSaid : Prop := tileShapesUptoRow.holds Try.pinned (OpenSpec.upto tileShapesSpec)

/-- 'aqulaw11.DiffChains', WHERE WHAT IT READS IS OF BULK AT MOST 1048576: true; the input reads as it did. -/
def diffChainsUptoRow : OpenClaim := { program := "ytcgpeijmmongoaa", sum := "aee395a29734bc4d5860c8ad3bc2b649d64522a05bd05ae11a2fa4ea544ecfd7", func := "aquatint/aqulaw11.DiffChains", spec := "diffChains", apart := false, narrowed := true }
def DiffChainsUptoSaid : Prop := diffChainsUptoRow.holds Try.pinned (OpenSpec.upto diffChainsSpec)

/-- 'aqulaw10.TileCuts', WHERE WHAT IT READS IS OF BULK AT MOST 1048576: true; the input reads as it did. -/
def tileCutsUptoRow : OpenClaim := { program := "ytcgpeijmmongoaa", sum := "aee395a29734bc4d5860c8ad3bc2b649d64522a05bd05ae11a2fa4ea544ecfd7", func := "aquatint/aqulaw10.TileCuts", spec := "tileCuts", unfollowed := true, recurses := true, apart := false, narrowed := true }
def TileCutsUptoSaid : Prop := tileCutsUptoRow.holds Try.pinned (OpenSpec.upto tileCutsSpec)

/-- 'aqulaw10.TileJoins', WHERE WHAT IT READS IS OF BULK AT MOST 1048576: true; the input reads as it did. -/
def tileJoinsUptoRow : OpenClaim := { program := "ytcgpeijmmongoaa", sum := "aee395a29734bc4d5860c8ad3bc2b649d64522a05bd05ae11a2fa4ea544ecfd7", func := "aquatint/aqulaw10.TileJoins", spec := "tileJoins", unfollowed := true, recurses := true, apart := false, narrowed := true }
def TileJoinsUptoSaid : Prop := tileJoinsUptoRow.holds Try.pinned (OpenSpec.upto tileJoinsSpec)

/-- 'aqulaw9.PixRows', WHERE WHAT IT READS IS OF BULK AT MOST 1048576: true; the input reads as it did. -/
def pixRowsUptoRow : OpenClaim := { program := "ytcgpeijmmongoaa", sum := "aee395a29734bc4d5860c8ad3bc2b649d64522a05bd05ae11a2fa4ea544ecfd7", func := "aquatint/aqulaw9.PixRows", spec := "pixRows", apart := false, narrowed := true }
def PixRowsUptoSaid : Prop := pixRowsUptoRow.holds Try.pinned (OpenSpec.upto pixRowsSpec)

/-- 'aqulaw10.TileOnes', WHERE WHAT IT READS IS OF BULK AT MOST 1048576: true; the input reads as it did. -/
def tileOnesUptoRow : OpenClaim := { program := "ytcgpeijmmongoaa", sum := "aee395a29734bc4d5860c8ad3bc2b649d64522a05bd05ae11a2fa4ea544ecfd7", func := "aquatint/aqulaw10.TileOnes", spec := "tileOnes", unfollowed := true, recurses := true, apart := false, narrowed := true }
def TileOnesUptoSaid : Prop := tileOnesUptoRow.holds Try.pinned (OpenSpec.upto tileOnesSpec)

/-- 'aqulaw11.DiffMakes', WHERE WHAT IT READS IS OF BULK AT MOST 1048576: true; the input reads as it did. -/
def diffMakesUptoRow : OpenClaim := { program := "ytcgpeijmmongoaa", sum := "aee395a29734bc4d5860c8ad3bc2b649d64522a05bd05ae11a2fa4ea544ecfd7", func := "aquatint/aqulaw11.DiffMakes", spec := "diffMakes", apart := false, narrowed := true }
def DiffMakesUptoSaid : Prop := diffMakesUptoRow.holds Try.pinned (OpenSpec.upto diffMakesSpec)

/-- 'aqulaw9.PixBytes', WHERE WHAT IT READS IS OF BULK AT MOST 1048576: true; the input reads as it did. -/
def pixBytesUptoRow : OpenClaim := { program := "ytcgpeijmmongoaa", sum := "aee395a29734bc4d5860c8ad3bc2b649d64522a05bd05ae11a2fa4ea544ecfd7", func := "aquatint/aqulaw9.PixBytes", spec := "pixBytes", apart := false, narrowed := true }
def PixBytesUptoSaid : Prop := pixBytesUptoRow.holds Try.pinned (OpenSpec.upto pixBytesSpec)

/-- 'aqulaw9.PixBack', WHERE WHAT IT READS IS OF BULK AT MOST 1048576: true; the input reads as it did. -/
def pixBackUptoRow : OpenClaim := { program := "ytcgpeijmmongoaa", sum := "aee395a29734bc4d5860c8ad3bc2b649d64522a05bd05ae11a2fa4ea544ecfd7", func := "aquatint/aqulaw9.PixBack", spec := "pixBack", apart := false, narrowed := true }
def PixBackUptoSaid : Prop := pixBackUptoRow.holds Try.pinned (OpenSpec.upto pixBackSpec)

/-- 'aqulaw9.PixSets', WHERE WHAT IT READS IS OF BULK AT MOST 1048576: true; the input reads as it did. -/
def pixSetsUptoRow : OpenClaim := { program := "ytcgpeijmmongoaa", sum := "aee395a29734bc4d5860c8ad3bc2b649d64522a05bd05ae11a2fa4ea544ecfd7", func := "aquatint/aqulaw9.PixSets", spec := "pixSets", apart := false, narrowed := true }
def PixSetsUptoSaid : Prop := pixSetsUptoRow.holds Try.pinned (OpenSpec.upto pixSetsSpec)

/-- 'aqulaw9.PixAsks', WHERE WHAT IT READS IS OF BULK AT MOST 1048576: true; the input reads as it did. -/
def pixAsksUptoRow : OpenClaim := { program := "ytcgpeijmmongoaa", sum := "aee395a29734bc4d5860c8ad3bc2b649d64522a05bd05ae11a2fa4ea544ecfd7", func := "aquatint/aqulaw9.PixAsks", spec := "pixAsks", apart := false, narrowed := true }
def PixAsksUptoSaid : Prop := pixAsksUptoRow.holds Try.pinned (OpenSpec.upto pixAsksSpec)

/-- 'aqulaw10.TileBack', WHERE WHAT IT READS IS OF BULK AT MOST 1048576: true; the input reads as it did. -/
def tileBackUptoRow : OpenClaim := { program := "ytcgpeijmmongoaa", sum := "aee395a29734bc4d5860c8ad3bc2b649d64522a05bd05ae11a2fa4ea544ecfd7", func := "aquatint/aqulaw10.TileBack", spec := "tileBack", unfollowed := true, recurses := true, apart := false, narrowed := true }
def TileBackUptoSaid : Prop := tileBackUptoRow.holds Try.pinned (OpenSpec.upto tileBackSpec)

end Rows
end Go.Proofs.Ytcgpeijmmongoaa
