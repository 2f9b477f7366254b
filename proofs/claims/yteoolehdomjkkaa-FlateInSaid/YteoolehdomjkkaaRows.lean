/-
  No cell of these rows narrows 'for every input' (looked for: loops, veiled, ifaces, maps, wideKeys, modest, calm, conditions, laid).
  DERIVED. THE GIVEN ROWS OF THIS SEAT. 4 by the template 'for every input the law returns true; each argument reads behind the call as it read before'; 0 by the template 'total and deterministic' (their statements: YteoolehdomjkkaaTotals.lean).
  GIVEN WITH THE SEED: the statements are not yours to turn. If you find one false, say at which input.
  Laid BY PROGRAM, IN A SANDBOX (cutbox-rows.mjs): the forced cells as the released guide's own fill.sh prints them over the translation fff980cc3b60012d… (all of the seat's roots in one cut). By AI agents, Wed Nov 11 2026. No macro, syntax, notation, axiom, sorry.
-/
import Derived.Test.YteoolehdomjkkaaChecked
import GoSem.Claim
import GoSem.ClaimJoined
import GoSem.ClaimMapViews
import Derived.JoinedTies
import Derived.KernelRfl
namespace Go.Proofs.Yteoolehdomjkkaa
/- THE CELL 'sum', in the pinned program and in every row, IS THE sha256 OF THE DUMP (.gsa) THAT YteoolehdomjkkaaProg.lean LOADS. Nothing in Lean hashes anything: it is a label: what it is worth is what the hold of that sum in a sandbox is worth. -/
noncomputable def Try.pinned : Pinned := { name := "yteoolehdomjkkaa", sum := "fff980cc3b60012d3d32209ab7836f214e5ef034afeef895bc011e57164482cd", checked := Try.checked }
namespace Rows
def none {H : Type} : Left H := { results := [], args := [] }

/-- 'aqulaw7.FlateIn': WHATEVER THE INPUT: true; the input reads as it did. -/
def flateInSpec : ChangeSpec := { name := "flateIn", fn := fun _ => fun
  | [d1, d2] => { results := [.lit (.bool true)], args := [d1, d2] }
  | _ => none }
def flateInRow : OpenClaim := { program := "yteoolehdomjkkaa", sum := "fff980cc3b60012d3d32209ab7836f214e5ef034afeef895bc011e57164482cd", func := "aquatint/aqulaw7.FlateIn", spec := "flateIn", unfollowed := true, recurses := true, plainKeys := false, apart := false }
def FlateInSaid : Prop := flateInRow.holds Try.pinned (OpenSpec.ofChange flateInSpec)

/-- ITS FALSE NEIGHBOUR: 'it returns false'. Refute it at one input. -/
def flateInWrong : ChangeSpec := { name := "flateIn", fn := fun _ => fun
  | [d1, d2] => { results := [.lit (.bool false)], args := [d1, d2] }
  | _ => none }
def FlateInWrongFalsely : Prop := flateInRow.holds Try.pinned (OpenSpec.ofChange flateInWrong)

/-- 'aqulaw8.ZlibBack': WHATEVER THE INPUT: true; the input reads as it did. -/
def zlibBackSpec : ChangeSpec := { name := "zlibBack", fn := fun _ => fun
  | [d1, d2, d3] => { results := [.lit (.bool true)], args := [d1, d2, d3] }
  | _ => none }
def zlibBackRow : OpenClaim := { program := "yteoolehdomjkkaa", sum := "fff980cc3b60012d3d32209ab7836f214e5ef034afeef895bc011e57164482cd", func := "aquatint/aqulaw8.ZlibBack", spec := "zlibBack", unfollowed := true, recurses := true, plainKeys := false, apart := false }
def ZlibBackSaid : Prop := zlibBackRow.holds Try.pinned (OpenSpec.ofChange zlibBackSpec)

/-- ITS FALSE NEIGHBOUR: 'it returns false'. Refute it at one input. -/
def zlibBackWrong : ChangeSpec := { name := "zlibBack", fn := fun _ => fun
  | [d1, d2, d3] => { results := [.lit (.bool false)], args := [d1, d2, d3] }
  | _ => none }
def ZlibBackWrongFalsely : Prop := zlibBackRow.holds Try.pinned (OpenSpec.ofChange zlibBackWrong)

/-- 'aqulaw8.ZlibRoom': WHATEVER THE INPUT: true; the input reads as it did. -/
def zlibRoomSpec : ChangeSpec := { name := "zlibRoom", fn := fun _ => fun
  | [d1, d2] => { results := [.lit (.bool true)], args := [d1, d2] }
  | _ => none }
def zlibRoomRow : OpenClaim := { program := "yteoolehdomjkkaa", sum := "fff980cc3b60012d3d32209ab7836f214e5ef034afeef895bc011e57164482cd", func := "aquatint/aqulaw8.ZlibRoom", spec := "zlibRoom", unfollowed := true, recurses := true, plainKeys := false, apart := false }
def ZlibRoomSaid : Prop := zlibRoomRow.holds Try.pinned (OpenSpec.ofChange zlibRoomSpec)

/-- ITS FALSE NEIGHBOUR: 'it returns false'. Refute it at one input. -/
def zlibRoomWrong : ChangeSpec := { name := "zlibRoom", fn := fun _ => fun
  | [d1, d2] => { results := [.lit (.bool false)], args := [d1, d2] }
  | _ => none }
def ZlibRoomWrongFalsely : Prop := zlibRoomRow.holds Try.pinned (OpenSpec.ofChange zlibRoomWrong)

/-- 'aqulaw11.DiffBack': WHATEVER THE INPUT: true; the input reads as it did. -/
def diffBackSpec : ChangeSpec := { name := "diffBack", fn := fun _ => fun
  | [d1, d2] => { results := [.lit (.bool true)], args := [d1, d2] }
  | _ => none }
def diffBackRow : OpenClaim := { program := "yteoolehdomjkkaa", sum := "fff980cc3b60012d3d32209ab7836f214e5ef034afeef895bc011e57164482cd", func := "aquatint/aqulaw11.DiffBack", spec := "diffBack", unfollowed := true, recurses := true, plainKeys := false, apart := false }
def DiffBackSaid : Prop := diffBackRow.holds Try.pinned (OpenSpec.ofChange diffBackSpec)

/-- ITS FALSE NEIGHBOUR: 'it returns false'. Refute it at one input. -/
def diffBackWrong : ChangeSpec := { name := "diffBack", fn := fun _ => fun
  | [d1, d2] => { results := [.lit (.bool false)], args := [d1, d2] }
  | _ => none }
def DiffBackWrongFalsely : Prop := diffBackRow.holds Try.pinned (OpenSpec.ofChange diffBackWrong)

/- THE SECOND FORM. 'bulk': how many values and letters a reading holds, each counted each time it is reached (what is shared counts as often as it is met; a slice's spare places count too). A statement '..UptoSaid' is the law's where the arguments, and the package variables that the reading takes, are together of bulk at most 1048576: NARROWER than '..Said'. Prove '..Said' where nothing that the law and all that it calls make is longer than what came in: it says more and counts as full. Else prove '..UptoSaid'. A law counts once. -/
mutual
def uptoBulk {H : Type} : DataW H → Nat
  | .lit (.string bytes) => bytes.length + 1
  | .lit _ => 1
  | .nil => 1
  | .ptr d => uptoBulk d + 1
  | .slice elems spare => uptoBulkAll elems + uptoBulkAll spare + 1
  | .agg parts => uptoBulkAll parts + 1
  | .iface _ d => uptoBulk d + 1
  | .map entries => uptoBulkEntries entries + 1
  | .held _ => 1
def uptoBulkAll {H : Type} : List (DataW H) → Nat
  | [] => 0
  | d :: r => uptoBulk d + uptoBulkAll r
def uptoBulkEntries {H : Type} : List (Lit × DataW H) → Nat
  | [] => 0
  | x :: r => uptoBulkEntry x + uptoBulkEntries r
def uptoBulkEntry {H : Type} : Lit × DataW H → Nat
  | (.string bytes, d) => bytes.length + uptoBulk d + 1
  | (_, d) => uptoBulk d + 1
 end
def uptoSmall : (H : Type) → List (DataW H) → Bool := fun _ ds => decide (uptoBulkAll ds ≤ 1048576)
def OpenSpec.upto (s : _root_.Go.ChangeSpec) : _root_.Go.OpenSpec := { _root_.Go.OpenSpec.ofChange s with cond := some uptoSmall }

/-- 'aqulaw7.FlateIn', WHERE WHAT IT READS IS OF BULK AT MOST 1048576: true; the input reads as it did. -/
def flateInUptoRow : OpenClaim := { program := "yteoolehdomjkkaa", sum := "fff980cc3b60012d3d32209ab7836f214e5ef034afeef895bc011e57164482cd", func := "aquatint/aqulaw7.FlateIn", spec := "flateIn", unfollowed := true, recurses := true, plainKeys := false, apart := false, narrowed := true }
def FlateInUptoSaid : Prop := flateInUptoRow.holds Try.pinned (OpenSpec.upto flateInSpec)

/-- 'aqulaw8.ZlibBack', WHERE WHAT IT READS IS OF BULK AT MOST 1048576: true; the input reads as it did. -/
def zlibBackUptoRow : OpenClaim := { program := "yteoolehdomjkkaa", sum := "fff980cc3b60012d3d32209ab7836f214e5ef034afeef895bc011e57164482cd", func := "aquatint/aqulaw8.ZlibBack", spec := "zlibBack", unfollowed := true, recurses := true, plainKeys := false, apart := false, narrowed := true }
def ZlibBackUptoSaid : Prop := zlibBackUptoRow.holds Try.pinned (OpenSpec.upto zlibBackSpec)

/-- 'aqulaw8.ZlibRoom', WHERE WHAT IT READS IS OF BULK AT MOST 1048576: true; the input reads as it did. -/
def zlibRoomUptoRow : OpenClaim := { program := "yteoolehdomjkkaa", sum := "fff980cc3b60012d3d32209ab7836f214e5ef034afeef895bc011e57164482cd", func := "aquatint/aqulaw8.ZlibRoom", spec := "zlibRoom", unfollowed := true, recurses := true, plainKeys := false, apart := false, narrowed := true }
def ZlibRoomUptoSaid : Prop := zlibRoomUptoRow.holds Try.pinned (OpenSpec.upto zlibRoomSpec)

/-- 'aqulaw11.DiffBack', WHERE WHAT IT READS IS OF BULK AT MOST 1048576: true; the input reads as it did. -/
def diffBackUptoRow : OpenClaim := { program := "yteoolehdomjkkaa", sum := "fff980cc3b60012d3d32209ab7836f214e5ef034afeef895bc011e57164482cd", func := "aquatint/aqulaw11.DiffBack", spec := "diffBack", unfollowed := true, recurses := true, plainKeys := false, apart := false, narrowed := true }
def DiffBackUptoSaid : Prop := diffBackUptoRow.holds Try.pinned (OpenSpec.upto diffBackSpec)

end Rows
end Go.Proofs.Yteoolehdomjkkaa
