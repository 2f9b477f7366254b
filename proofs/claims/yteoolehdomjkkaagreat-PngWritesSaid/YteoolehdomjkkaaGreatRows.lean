/-
  No cell of these rows narrows 'for every input' (looked for: loops, veiled, ifaces, maps, wideKeys, modest, calm, conditions, laid).
  DERIVED. THE GIVEN ROWS OF THIS SEAT. 4 by the template 'for every input the law returns true; each argument reads behind the call as it read before'; 0 by the template 'total and deterministic' (their statements: YteoolehdomjkkaaGreatTotals.lean).
  GIVEN WITH THE SEED: the statements are not yours to turn. If you find one false, say at which input.
  Laid BY PROGRAM, IN A SANDBOX (cutbox-rows.mjs): the forced cells as the released guide's own fill.sh prints them over the translation d5c0306928422116… (all of the seat's roots in one cut). By AI agents, Wed Nov 11 2026. No macro, syntax, notation, axiom, sorry.
-/
import Derived.Test.YteoolehdomjkkaaGreatChecked
import GoSem.Claim
import GoSem.ClaimJoined
import GoSem.ClaimMapViews
import Derived.JoinedTies
import Derived.KernelRfl
namespace Go.Proofs.YteoolehdomjkkaaGreat
/- THE CELL 'sum', in the pinned program and in every row, IS THE sha256 OF THE DUMP (.gsa) THAT YteoolehdomjkkaaGreatProg.lean LOADS. Nothing in Lean hashes anything: it is a label: what it is worth is what the hold of that sum in a sandbox is worth. -/
noncomputable def Tryz.pinned : Pinned := { name := "yteoolehdomjkkaagreat", sum := "d5c0306928422116824c5eeb138d793edf4eb2684b33ccc5673dcdccdee9e27d", checked := Tryz.checked }
namespace Rows
def none {H : Type} : Left H := { results := [], args := [] }

/-- 'aqulaw11.DiffBests': WHATEVER THE INPUT: true; the input reads as it did. -/
def diffBestsSpec : ChangeSpec := { name := "diffBests", fn := fun _ => fun
  | [d1, d2] => { results := [.lit (.bool true)], args := [d1, d2] }
  | _ => none }
def diffBestsRow : OpenClaim := { program := "yteoolehdomjkkaagreat", sum := "d5c0306928422116824c5eeb138d793edf4eb2684b33ccc5673dcdccdee9e27d", func := "aquatint/aqulaw11.DiffBests", spec := "diffBests", unfollowed := true, recurses := true, plainKeys := false, apart := false }
def DiffBestsSaid : Prop := diffBestsRow.holds Tryz.pinned (OpenSpec.ofChange diffBestsSpec)

/-- ITS FALSE NEIGHBOUR: 'it returns false'. Refute it at one input. -/
def diffBestsWrong : ChangeSpec := { name := "diffBests", fn := fun _ => fun
  | [d1, d2] => { results := [.lit (.bool false)], args := [d1, d2] }
  | _ => none }
def DiffBestsWrongFalsely : Prop := diffBestsRow.holds Tryz.pinned (OpenSpec.ofChange diffBestsWrong)

/-- 'aqulaw13.PngWrites': WHATEVER THE INPUT: true; the input reads as it did. -/
def pngWritesSpec : ChangeSpec := { name := "pngWrites", fn := fun _ => fun
  | [d1, d2] => { results := [.lit (.bool true)], args := [d1, d2] }
  | _ => none }
def pngWritesRow : OpenClaim := { program := "yteoolehdomjkkaagreat", sum := "d5c0306928422116824c5eeb138d793edf4eb2684b33ccc5673dcdccdee9e27d", func := "aquatint/aqulaw13.PngWrites", spec := "pngWrites", unfollowed := true, recurses := true, plainKeys := false, apart := false }
def PngWritesSaid : Prop := pngWritesRow.holds Tryz.pinned (OpenSpec.ofChange pngWritesSpec)

/-- ITS FALSE NEIGHBOUR: 'it returns false'. Refute it at one input. -/
def pngWritesWrong : ChangeSpec := { name := "pngWrites", fn := fun _ => fun
  | [d1, d2] => { results := [.lit (.bool false)], args := [d1, d2] }
  | _ => none }
def PngWritesWrongFalsely : Prop := pngWritesRow.holds Tryz.pinned (OpenSpec.ofChange pngWritesWrong)

/-- 'aqulaw7.FlateOut': WHATEVER THE INPUT: true; the input reads as it did. -/
def flateOutSpec : ChangeSpec := { name := "flateOut", fn := fun _ => fun
  | [d1, d2, d3] => { results := [.lit (.bool true)], args := [d1, d2, d3] }
  | _ => none }
def flateOutRow : OpenClaim := { program := "yteoolehdomjkkaagreat", sum := "d5c0306928422116824c5eeb138d793edf4eb2684b33ccc5673dcdccdee9e27d", func := "aquatint/aqulaw7.FlateOut", spec := "flateOut", unfollowed := true, recurses := true, plainKeys := false, apart := false }
def FlateOutSaid : Prop := flateOutRow.holds Tryz.pinned (OpenSpec.ofChange flateOutSpec)

/-- ITS FALSE NEIGHBOUR: 'it returns false'. Refute it at one input. -/
def flateOutWrong : ChangeSpec := { name := "flateOut", fn := fun _ => fun
  | [d1, d2, d3] => { results := [.lit (.bool false)], args := [d1, d2, d3] }
  | _ => none }
def FlateOutWrongFalsely : Prop := flateOutRow.holds Tryz.pinned (OpenSpec.ofChange flateOutWrong)

/-- 'aqulaw8.ZlibFrames': WHATEVER THE INPUT: true; the input reads as it did. -/
def zlibFramesSpec : ChangeSpec := { name := "zlibFrames", fn := fun _ => fun
  | [d1, d2, d3] => { results := [.lit (.bool true)], args := [d1, d2, d3] }
  | _ => none }
def zlibFramesRow : OpenClaim := { program := "yteoolehdomjkkaagreat", sum := "d5c0306928422116824c5eeb138d793edf4eb2684b33ccc5673dcdccdee9e27d", func := "aquatint/aqulaw8.ZlibFrames", spec := "zlibFrames", unfollowed := true, recurses := true, plainKeys := false, apart := false }
def ZlibFramesSaid : Prop := zlibFramesRow.holds Tryz.pinned (OpenSpec.ofChange zlibFramesSpec)

/-- ITS FALSE NEIGHBOUR: 'it returns false'. Refute it at one input. -/
def zlibFramesWrong : ChangeSpec := { name := "zlibFrames", fn := fun _ => fun
  | [d1, d2, d3] => { results := [.lit (.bool false)], args := [d1, d2, d3] }
  | _ => none }
def ZlibFramesWrongFalsely : Prop := zlibFramesRow.holds Tryz.pinned (OpenSpec.ofChange zlibFramesWrong)

/- THE SECOND FORM. 'bulk': how many values and letters a reading holds, each counted each time it is reached (what is shared counts as often as it is met; a slice's spare places count too). A statement '..UptoSaid' is the law's where the arguments, and the package variables that the reading takes, are together of bulk at most 1048576: NARROWER than '..Said'. Prove '..Said' where nothing that the law and all that it calls make is longer than what came in: it says more and counts as full. Else prove '..UptoSaid'. A law counts once. -/
mutual
def uptoBulk {H : Type} : DataW H → Nat
  | .lit (.string bytes) => bytes.length + 1
  | .lit _ => 1
  | .nil => 1
  | .ptr d => uptoBulk d + 1
  | .slice elems spare => uptoBulkAll elems + uptoBulkAll spare + 1
  | .agg parts => uptoBulkAll parts + 1
  | .iface _ d => uptoBulk d + 1
  | .map entries => uptoBulkEntries entries + 1
  | .held _ => 1
def uptoBulkAll {H : Type} : List (DataW H) → Nat
  | [] => 0
  | d :: r => uptoBulk d + uptoBulkAll r
def uptoBulkEntries {H : Type} : List (Lit × DataW H) → Nat
  | [] => 0
  | x :: r => uptoBulkEntry x + uptoBulkEntries r
def uptoBulkEntry {H : Type} : Lit × DataW H → Nat
  | (.string bytes, d) => bytes.length + uptoBulk d + 1
  | (_, d) => uptoBulk d + 1
 end
def uptoSmall : (H : Type) → List (DataW H) → Bool := fun _ ds => decide (uptoBulkAll ds ≤ 1048576)
def OpenSpec.upto (s : _root_.Go.ChangeSpec) : _root_.Go.OpenSpec := { _root_.Go.OpenSpec.ofChange s with cond := some uptoSmall }

/-- 'aqulaw11.DiffBests', WHERE WHAT IT READS IS OF BULK AT MOST 1048576: true; the input reads as it did. -/
def diffBestsUptoRow : OpenClaim := { program := "yteoolehdomjkkaagreat", sum := "d5c0306928422116824c5eeb138d793edf4eb2684b33ccc5673dcdccdee9e27d", func := "aquatint/aqulaw11.DiffBests", spec := "diffBests", unfollowed := true, recurses := true, plainKeys := false, apart := false, narrowed := true }
def DiffBestsUptoSaid : Prop := diffBestsUptoRow.holds Tryz.pinned (OpenSpec.upto diffBestsSpec)

/-- 'aqulaw13.PngWrites', WHERE WHAT IT READS IS OF BULK AT MOST 1048576: true; the input reads as it did. -/
def pngWritesUptoRow : OpenClaim := { program := "yteoolehdomjkkaagreat", sum := "d5c0306928422116824c5eeb138d793edf4eb2684b33ccc5673dcdccdee9e27d", func := "aquatint/aqulaw13.PngWrites", spec := "pngWrites", unfollowed := true, recurses := true, plainKeys := false, apart := false, narrowed := true }
def PngWritesUptoSaid : Prop := pngWritesUptoRow.holds Tryz.pinned (OpenSpec.upto pngWritesSpec)

/-- 'aqulaw7.FlateOut', WHERE WHAT IT READS IS OF BULK AT MOST 1048576: true; the input reads as it did. -/
def flateOutUptoRow : OpenClaim := { program := "yteoolehdomjkkaagreat", sum := "d5c0306928422116824c5eeb138d793edf4eb2684b33ccc5673dcdccdee9e27d", func := "aquatint/aqulaw7.FlateOut", spec := "flateOut", unfollowed := true, recurses := true, plainKeys := false, apart := false, narrowed := true }
def FlateOutUptoSaid : Prop := flateOutUptoRow.holds Tryz.pinned (OpenSpec.upto flateOutSpec)

/-- 'aqulaw8.ZlibFrames', WHERE WHAT IT READS IS OF BULK AT MOST 1048576: true; the input reads as it did. -/
def zlibFramesUptoRow : OpenClaim := { program := "yteoolehdomjkkaagreat", sum := "d5c0306928422116824c5eeb138d793edf4eb2684b33ccc5673dcdccdee9e27d", func := "aquatint/aqulaw8.ZlibFrames", spec := "zlibFrames", unfollowed := true, recurses := true, plainKeys := false, apart := false, narrowed := true }
def ZlibFramesUptoSaid : Prop := zlibFramesUptoRow.holds Tryz.pinned (OpenSpec.upto zlibFramesSpec)

end Rows
end Go.Proofs.YteoolehdomjkkaaGreat
