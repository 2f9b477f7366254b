/-
  NARROWER THAN 'FOR EVERY INPUT', by the rows' own cells (each row's printed sentence says how): PngReads: laid · PngChunks: laid · PngSplits: laid · PngHeads: laid.
  DERIVED. THE GIVEN ROWS OF THIS SEAT. 4 by the template 'for every input the law returns true; each argument reads behind the call as it read before'; 0 by the template 'total and deterministic' (their statements: YtebbdifhiihfkaaGreatDoorTotals.lean).
  GIVEN WITH THE SEED: the statements are not yours to turn. If you find one false, say at which input.
  Laid BY PROGRAM, IN A SANDBOX (cutbox-rows.mjs): the forced cells as the released guide's own fill.sh prints them over the translation 57b465c2c0746a53… (all of the seat's roots in one cut). By AI agents, Wed Nov 11 2026. No macro, syntax, notation, axiom, sorry.
-/
import Derived.Test.YtebbdifhiihfkaaGreatDoorChecked
import GoSem.Claim
import GoSem.ClaimJoined
import GoSem.ClaimMapViews
import Derived.JoinedTies
import Derived.KernelRfl
namespace Go.Proofs.YtebbdifhiihfkaaGreatDoor
/- THE CELL 'sum', in the pinned program and in every row, IS THE sha256 OF THE DUMP (.gsa) THAT YtebbdifhiihfkaaGreatDoorProg.lean LOADS. Nothing in Lean hashes anything: it is a label: what it is worth is what the hold of that sum in a sandbox is worth. -/
noncomputable def Tryz.pinned : Pinned := { name := "ytebbdifhiihfkaagreatdoor", sum := "57b465c2c0746a53c8de36f72ddd871b34053217ba5eb2dca4e8418d2e50aa36", checked := Tryz.checked }
namespace Rows
def none {H : Type} : Left H := { results := [], args := [] }

/- WHAT THE LISTED PACKAGE-LEVEL VARIABLES READ AS WHEN THE CALL BEGINS. Each datum BY PROGRAM (the guide's laid-datum.mjs) off the statement by which the dump's own 'gosem.cut.vars' lays the variable. In a bare row this is a premise. The card (YtebbdifhiihfkaaGreatDoorCards.lean) ties it to the program's text. -/
def laid_bytes_ErrTooLarge {H : Type} : DataW H := .iface "*errors.errorString" (.ptr (.agg [.lit (.string [98, 121, 116, 101, 115, 46, 66, 117, 102, 102, 101, 114, 58, 32, 116, 111, 111, 32, 108, 97, 114, 103, 101])]))

/-- 'aqulaw13.PngReads': WHATEVER THE INPUT: true; the input reads as it did. -/
def pngReadsSpec : ChangeSpec := { name := "pngReads", fn := fun _ => fun
  | [d] => { results := [.lit (.bool true)], args := [d] }
  | _ => none }
def pngReadsRow : OpenClaim := { program := "ytebbdifhiihfkaagreatdoor", sum := "57b465c2c0746a53c8de36f72ddd871b34053217ba5eb2dca4e8418d2e50aa36", func := "aquatint/aqulaw13.PngReads", spec := "pngReads", inPlace := ["internal/bytealg.IndexByte"], unfollowed := true, recurses := true, named := ["bytes.ErrTooLarge"], plainKeys := false, apart := false, laid := [("bytes.ErrTooLarge", laid_bytes_ErrTooLarge)] }
def PngReadsSaid : Prop := pngReadsRow.holds Tryz.pinned (OpenSpec.ofChange pngReadsSpec)

/-- ITS FALSE NEIGHBOUR: 'it returns false'. Refute it at one input. -/
def pngReadsWrong : ChangeSpec := { name := "pngReads", fn := fun _ => fun
  | [d] => { results := [.lit (.bool false)], args := [d] }
  | _ => none }
def PngReadsWrongFalsely : Prop := pngReadsRow.holds Tryz.pinned (OpenSpec.ofChange pngReadsWrong)

/-- 'aqulaw13.PngChunks': WHATEVER THE INPUT: true; the input reads as it did. -/
def pngChunksSpec : ChangeSpec := { name := "pngChunks", fn := fun _ => fun
  | [d1, d2, d3] => { results := [.lit (.bool true)], args := [d1, d2, d3] }
  | _ => none }
def pngChunksRow : OpenClaim := { program := "ytebbdifhiihfkaagreatdoor", sum := "57b465c2c0746a53c8de36f72ddd871b34053217ba5eb2dca4e8418d2e50aa36", func := "aquatint/aqulaw13.PngChunks", spec := "pngChunks", inPlace := ["internal/bytealg.IndexByte"], unfollowed := true, recurses := true, named := ["bytes.ErrTooLarge"], plainKeys := false, apart := false, laid := [("bytes.ErrTooLarge", laid_bytes_ErrTooLarge)] }
def PngChunksSaid : Prop := pngChunksRow.holds Tryz.pinned (OpenSpec.ofChange pngChunksSpec)

/-- ITS FALSE NEIGHBOUR: 'it returns false'. Refute it at one input. -/
def pngChunksWrong : ChangeSpec := { name := "pngChunks", fn := fun _ => fun
  | [d1, d2, d3] => { results := [.lit (.bool false)], args := [d1, d2, d3] }
  | _ => none }
def PngChunksWrongFalsely : Prop := pngChunksRow.holds Tryz.pinned (OpenSpec.ofChange pngChunksWrong)

/-- 'aqulaw13.PngSplits': WHATEVER THE INPUT: true; the input reads as it did. -/
def pngSplitsSpec : ChangeSpec := { name := "pngSplits", fn := fun _ => fun
  | [d1, d2, d3] => { results := [.lit (.bool true)], args := [d1, d2, d3] }
  | _ => none }
def pngSplitsRow : OpenClaim := { program := "ytebbdifhiihfkaagreatdoor", sum := "57b465c2c0746a53c8de36f72ddd871b34053217ba5eb2dca4e8418d2e50aa36", func := "aquatint/aqulaw13.PngSplits", spec := "pngSplits", inPlace := ["internal/bytealg.IndexByte"], unfollowed := true, recurses := true, named := ["bytes.ErrTooLarge"], plainKeys := false, apart := false, laid := [("bytes.ErrTooLarge", laid_bytes_ErrTooLarge)] }
def PngSplitsSaid : Prop := pngSplitsRow.holds Tryz.pinned (OpenSpec.ofChange pngSplitsSpec)

/-- ITS FALSE NEIGHBOUR: 'it returns false'. Refute it at one input. -/
def pngSplitsWrong : ChangeSpec := { name := "pngSplits", fn := fun _ => fun
  | [d1, d2, d3] => { results := [.lit (.bool false)], args := [d1, d2, d3] }
  | _ => none }
def PngSplitsWrongFalsely : Prop := pngSplitsRow.holds Tryz.pinned (OpenSpec.ofChange pngSplitsWrong)

/-- 'aqulaw13.PngHeads': WHATEVER THE INPUT: true; the input reads as it did. -/
def pngHeadsSpec : ChangeSpec := { name := "pngHeads", fn := fun _ => fun
  | [d1, d2] => { results := [.lit (.bool true)], args := [d1, d2] }
  | _ => none }
def pngHeadsRow : OpenClaim := { program := "ytebbdifhiihfkaagreatdoor", sum := "57b465c2c0746a53c8de36f72ddd871b34053217ba5eb2dca4e8418d2e50aa36", func := "aquatint/aqulaw13.PngHeads", spec := "pngHeads", inPlace := ["internal/bytealg.IndexByte"], unfollowed := true, recurses := true, named := ["bytes.ErrTooLarge"], plainKeys := false, apart := false, laid := [("bytes.ErrTooLarge", laid_bytes_ErrTooLarge)] }
def PngHeadsSaid : Prop := pngHeadsRow.holds Tryz.pinned (OpenSpec.ofChange pngHeadsSpec)

/-- ITS FALSE NEIGHBOUR: 'it returns false'. Refute it at one input. -/
def pngHeadsWrong : ChangeSpec := { name := "pngHeads", fn := fun _ => fun
  | [d1, d2] => { results := [.lit (.bool false)], args := [d1, d2] }
  | _ => none }
def PngHeadsWrongFalsely : Prop := pngHeadsRow.holds Tryz.pinned (OpenSpec.ofChange pngHeadsWrong)

/- THE SECOND FORM. 'bulk': how many values and letters a reading holds, each counted each time it is reached (what is shared counts as often as it is met; a slice's spare places count too). A statement '..UptoSaid' is the law's where the arguments, and the package variables that the reading takes, are together of bulk at most 1048576: NARROWER than '..Said'. Prove '..Said' where nothing that the law and all that it calls make is longer than what came in: it says more and counts as full. Else prove '..UptoSaid'. A law counts once. -/
mutual
def uptoBulk {H : Type} : DataW H → Nat
  | .lit (.string bytes) => bytes.length + 1
  | .lit _ => 1
  | .nil => 1
  | .ptr d => uptoBulk d + 1
  | .slice elems spare => uptoBulkAll elems + uptoBulkAll spare + 1
  | .agg parts => uptoBulkAll parts + 1
  | .iface _ d => uptoBulk d + 1
  | .map entries => uptoBulkEntries entries + 1
  | .held _ => 1
def uptoBulkAll {H : Type} : List (DataW H) → Nat
  | [] => 0
  | d :: r => uptoBulk d + uptoBulkAll r
def uptoBulkEntries {H : Type} : List (Lit × DataW H) → Nat
  | [] => 0
  | x :: r => uptoBulkEntry x + uptoBulkEntries r
def uptoBulkEntry {H : Type} : Lit × DataW H → Nat
  | (.string bytes, d) => bytes.length + uptoBulk d + 1
  | (_, d) => uptoBulk d + 1
 end
def uptoSmall : (H : Type) → List (DataW H) → Bool := fun _ ds => decide (uptoBulkAll ds ≤ 1048576)
def OpenSpec.upto (s : _root_.Go.ChangeSpec) : _root_.Go.OpenSpec := { _root_.Go.OpenSpec.ofChange s with cond := some uptoSmall }

/-- 'aqulaw13.PngReads', WHERE WHAT IT READS IS OF BULK AT MOST 1048576: true; the input reads as it did. -/
def pngReadsUptoRow : OpenClaim := { program := "ytebbdifhiihfkaagreatdoor", sum := "57b465c2c0746a53c8de36f72ddd871b34053217ba5eb2dca4e8418d2e50aa36", func := "aquatint/aqulaw13.PngReads", spec := "pngReads", inPlace := ["internal/bytealg.IndexByte"], unfollowed := true, recurses := true, named := ["bytes.ErrTooLarge"], plainKeys := false, apart := false, laid := [("bytes.ErrTooLarge", laid_bytes_ErrTooLarge)], narrowed := true }
def PngReadsUptoSaid : Prop := pngReadsUptoRow.holds Tryz.pinned (OpenSpec.upto pngReadsSpec)

/-- 'aqulaw13.PngChunks', WHERE WHAT IT READS IS OF BULK AT MOST 1048576: true; the input reads as it did. -/
def pngChunksUptoRow : OpenClaim := { program := "ytebbdifhiihfkaagreatdoor", sum := "57b465c2c0746a53c8de36f72ddd871b34053217ba5eb2dca4e8418d2e50aa36", func := "aquatint/aqulaw13.PngChunks", spec := "pngChunks", inPlace := ["internal/bytealg.IndexByte"], unfollowed := true, recurses := true, named := ["bytes.ErrTooLarge"], plainKeys := false, apart := false, laid := [("bytes.ErrTooLarge", laid_bytes_ErrTooLarge)], narrowed := true }
def PngChunksUptoSaid : Prop := pngChunksUptoRow.holds Tryz.pinned (OpenSpec.upto pngChunksSpec)

/-- 'aqulaw13.PngSplits', WHERE WHAT IT READS IS OF BULK AT MOST 1048576: true; the input reads as it did. -/
def pngSplitsUptoRow : OpenClaim := { program := "ytebbdifhiihfkaagreatdoor", sum := "57b465c2c0746a53c8de36f72ddd871b34053217ba5eb2dca4e8418d2e50aa36", func := "aquatint/aqulaw13.PngSplits", spec := "pngSplits", inPlace := ["internal/bytealg.IndexByte"], unfollowed := true, recurses := true, named := ["bytes.ErrTooLarge"], plainKeys := false, apart := false, laid := [("bytes.ErrTooLarge", laid_bytes_ErrTooLarge)], narrowed := true }
def PngSplitsUptoSaid : Prop := pngSplitsUptoRow.holds Tryz.pinned (OpenSpec.upto pngSplitsSpec)

/-- 'aqulaw13.PngHeads', WHERE WHAT IT READS IS OF BULK AT MOST 1048576: true; the input reads as it did. -/
def pngHeadsUptoRow : OpenClaim := { program := "ytebbdifhiihfkaagreatdoor", sum := "57b465c2c0746a53c8de36f72ddd871b34053217ba5eb2dca4e8418d2e50aa36", func := "aquatint/aqulaw13.PngHeads", spec := "pngHeads", inPlace := ["internal/bytealg.IndexByte"], unfollowed := true, recurses := true, named := ["bytes.ErrTooLarge"], plainKeys := false, apart := false, laid := [("bytes.ErrTooLarge", laid_bytes_ErrTooLarge)], narrowed := true }
def PngHeadsUptoSaid : Prop := pngHeadsUptoRow.holds Tryz.pinned (OpenSpec.upto pngHeadsSpec)

end Rows
end Go.Proofs.YtebbdifhiihfkaaGreatDoor
