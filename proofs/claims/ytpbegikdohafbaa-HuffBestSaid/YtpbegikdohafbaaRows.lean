/-
  No cell of these rows narrows 'for every input' (looked for: loops, veiled, ifaces, maps, wideKeys, modest, calm, conditions, laid).
  DERIVED. THE GIVEN ROWS OF THIS SEAT. 8 by the template 'for every input the law returns true; each argument reads behind the call as it read before'; 0 by the template 'total and deterministic' (their statements: YtpbegikdohafbaaTotals.lean).
  GIVEN WITH THE SEED: the statements are not yours to turn. If you find one false, say at which input.
  Laid BY PROGRAM, IN A SANDBOX (cutbox-rows.mjs): the forced cells as the released guide's own fill.sh prints them over the translation d5d8da8f46569477… (all of the seat's roots in one cut). By AI agents, Wed Nov 11 2026. No macro, syntax, notation, axiom, sorry.
-/
import Derived.Test.YtpbegikdohafbaaChecked
import GoSem.Claim
import GoSem.ClaimJoined
import GoSem.ClaimMapViews
import Derived.JoinedTies
import Derived.KernelRfl
namespace Go.Proofs.Ytpbegikdohafbaa
/- THE CELL 'sum', in the pinned program and in every row, IS THE sha256 OF THE DUMP (.gsa) THAT YtpbegikdohafbaaProg.lean LOADS. Nothing in Lean hashes anything: it is a label: what it is worth is what the hold of that sum in a sandbox is worth. -/
noncomputable def Try.pinned : Pinned := { name := "ytpbegikdohafbaa", sum := "d5d8da8f465694770b8710fddf9d698e979abb9beb5c6ad1b4f18dafb63dd756", checked := Try.checked }
namespace Rows
def none {H : Type} : Left H := { results := [], args := [] }

/-- 'aqulaw5.HuffLengths': WHATEVER THE INPUT: true; the input reads as it did. -/
def huffLengthsSpec : ChangeSpec := { name := "huffLengths", fn := fun _ => fun
  | [d1, d2] => { results := [.lit (.bool true)], args := [d1, d2] }
  | _ => none }
def huffLengthsRow : OpenClaim := { program := "ytpbegikdohafbaa", sum := "d5d8da8f465694770b8710fddf9d698e979abb9beb5c6ad1b4f18dafb63dd756", func := "aquatint/aqulaw5.HuffLengths", spec := "huffLengths", unfollowed := true, recurses := true, apart := false }
def HuffLengthsSaid : Prop := huffLengthsRow.holds Try.pinned (OpenSpec.ofChange huffLengthsSpec)

/-- ITS FALSE NEIGHBOUR: 'it returns false'. Refute it at one input. -/
def huffLengthsWrong : ChangeSpec := { name := "huffLengths", fn := fun _ => fun
  | [d1, d2] => { results := [.lit (.bool false)], args := [d1, d2] }
  | _ => none }
def HuffLengthsWrongFalsely : Prop := huffLengthsRow.holds Try.pinned (OpenSpec.ofChange huffLengthsWrong)

/-- 'aqulaw5.HuffCodes': WHATEVER THE INPUT: true; the input reads as it did. -/
def huffCodesSpec : ChangeSpec := { name := "huffCodes", fn := fun _ => fun
  | [d] => { results := [.lit (.bool true)], args := [d] }
  | _ => none }
def huffCodesRow : OpenClaim := { program := "ytpbegikdohafbaa", sum := "d5d8da8f465694770b8710fddf9d698e979abb9beb5c6ad1b4f18dafb63dd756", func := "aquatint/aqulaw5.HuffCodes", spec := "huffCodes", unfollowed := true, recurses := true, apart := false }
def HuffCodesSaid : Prop := huffCodesRow.holds Try.pinned (OpenSpec.ofChange huffCodesSpec)

/-- ITS FALSE NEIGHBOUR: 'it returns false'. Refute it at one input. -/
def huffCodesWrong : ChangeSpec := { name := "huffCodes", fn := fun _ => fun
  | [d] => { results := [.lit (.bool false)], args := [d] }
  | _ => none }
def HuffCodesWrongFalsely : Prop := huffCodesRow.holds Try.pinned (OpenSpec.ofChange huffCodesWrong)

/-- 'aqulaw5.HuffFull': WHATEVER THE INPUT: true; the input reads as it did. -/
def huffFullSpec : ChangeSpec := { name := "huffFull", fn := fun _ => fun
  | [d1, d2] => { results := [.lit (.bool true)], args := [d1, d2] }
  | _ => none }
def huffFullRow : OpenClaim := { program := "ytpbegikdohafbaa", sum := "d5d8da8f465694770b8710fddf9d698e979abb9beb5c6ad1b4f18dafb63dd756", func := "aquatint/aqulaw5.HuffFull", spec := "huffFull", unfollowed := true, recurses := true, apart := false }
def HuffFullSaid : Prop := huffFullRow.holds Try.pinned (OpenSpec.ofChange huffFullSpec)

/-- ITS FALSE NEIGHBOUR: 'it returns false'. Refute it at one input. -/
def huffFullWrong : ChangeSpec := { name := "huffFull", fn := fun _ => fun
  | [d1, d2] => { results := [.lit (.bool false)], args := [d1, d2] }
  | _ => none }
def HuffFullWrongFalsely : Prop := huffFullRow.holds Try.pinned (OpenSpec.ofChange huffFullWrong)

/-- 'aqulaw5.HuffPrefix': WHATEVER THE INPUT: true; the input reads as it did. -/
def huffPrefixSpec : ChangeSpec := { name := "huffPrefix", fn := fun _ => fun
  | [d] => { results := [.lit (.bool true)], args := [d] }
  | _ => none }
def huffPrefixRow : OpenClaim := { program := "ytpbegikdohafbaa", sum := "d5d8da8f465694770b8710fddf9d698e979abb9beb5c6ad1b4f18dafb63dd756", func := "aquatint/aqulaw5.HuffPrefix", spec := "huffPrefix", unfollowed := true, recurses := true, apart := false }
def HuffPrefixSaid : Prop := huffPrefixRow.holds Try.pinned (OpenSpec.ofChange huffPrefixSpec)

/-- ITS FALSE NEIGHBOUR: 'it returns false'. Refute it at one input. -/
def huffPrefixWrong : ChangeSpec := { name := "huffPrefix", fn := fun _ => fun
  | [d] => { results := [.lit (.bool false)], args := [d] }
  | _ => none }
def HuffPrefixWrongFalsely : Prop := huffPrefixRow.holds Try.pinned (OpenSpec.ofChange huffPrefixWrong)

/-- 'aqulaw5.HuffBest': WHATEVER THE INPUT: true; the input reads as it did. -/
def huffBestSpec : ChangeSpec := { name := "huffBest", fn := fun _ => fun
  | [d1, d2, d3] => { results := [.lit (.bool true)], args := [d1, d2, d3] }
  | _ => none }
def huffBestRow : OpenClaim := { program := "ytpbegikdohafbaa", sum := "d5d8da8f465694770b8710fddf9d698e979abb9beb5c6ad1b4f18dafb63dd756", func := "aquatint/aqulaw5.HuffBest", spec := "huffBest", unfollowed := true, recurses := true, apart := false }
def HuffBestSaid : Prop := huffBestRow.holds Try.pinned (OpenSpec.ofChange huffBestSpec)

/-- ITS FALSE NEIGHBOUR: 'it returns false'. Refute it at one input. -/
def huffBestWrong : ChangeSpec := { name := "huffBest", fn := fun _ => fun
  | [d1, d2, d3] => { results := [.lit (.bool false)], args := [d1, d2, d3] }
  | _ => none }
def HuffBestWrongFalsely : Prop := huffBestRow.holds Try.pinned (OpenSpec.ofChange huffBestWrong)

/-- 'aqulaw5.HuffMore': WHATEVER THE INPUT: true; the input reads as it did. -/
def huffMoreSpec : ChangeSpec := { name := "huffMore", fn := fun _ => fun
  | [d1, d2, d3] => { results := [.lit (.bool true)], args := [d1, d2, d3] }
  | _ => none }
def huffMoreRow : OpenClaim := { program := "ytpbegikdohafbaa", sum := "d5d8da8f465694770b8710fddf9d698e979abb9beb5c6ad1b4f18dafb63dd756", func := "aquatint/aqulaw5.HuffMore", spec := "huffMore", unfollowed := true, recurses := true, apart := false }
def HuffMoreSaid : Prop := huffMoreRow.holds Try.pinned (OpenSpec.ofChange huffMoreSpec)

/-- ITS FALSE NEIGHBOUR: 'it returns false'. Refute it at one input. -/
def huffMoreWrong : ChangeSpec := { name := "huffMore", fn := fun _ => fun
  | [d1, d2, d3] => { results := [.lit (.bool false)], args := [d1, d2, d3] }
  | _ => none }
def HuffMoreWrongFalsely : Prop := huffMoreRow.holds Try.pinned (OpenSpec.ofChange huffMoreWrong)

/-- 'aqulaw5.HuffReads': WHATEVER THE INPUT: true; the input reads as it did. -/
def huffReadsSpec : ChangeSpec := { name := "huffReads", fn := fun _ => fun
  | [d1, d2] => { results := [.lit (.bool true)], args := [d1, d2] }
  | _ => none }
def huffReadsRow : OpenClaim := { program := "ytpbegikdohafbaa", sum := "d5d8da8f465694770b8710fddf9d698e979abb9beb5c6ad1b4f18dafb63dd756", func := "aquatint/aqulaw5.HuffReads", spec := "huffReads", unfollowed := true, recurses := true, apart := false }
def HuffReadsSaid : Prop := huffReadsRow.holds Try.pinned (OpenSpec.ofChange huffReadsSpec)

/-- ITS FALSE NEIGHBOUR: 'it returns false'. Refute it at one input. -/
def huffReadsWrong : ChangeSpec := { name := "huffReads", fn := fun _ => fun
  | [d1, d2] => { results := [.lit (.bool false)], args := [d1, d2] }
  | _ => none }
def HuffReadsWrongFalsely : Prop := huffReadsRow.holds Try.pinned (OpenSpec.ofChange huffReadsWrong)

/-- 'aqulaw5.HuffBack': WHATEVER THE INPUT: true; the input reads as it did. -/
def huffBackSpec : ChangeSpec := { name := "huffBack", fn := fun _ => fun
  | [d1, d2] => { results := [.lit (.bool true)], args := [d1, d2] }
  | _ => none }
def huffBackRow : OpenClaim := { program := "ytpbegikdohafbaa", sum := "d5d8da8f465694770b8710fddf9d698e979abb9beb5c6ad1b4f18dafb63dd756", func := "aquatint/aqulaw5.HuffBack", spec := "huffBack", unfollowed := true, recurses := true, apart := false }
def HuffBackSaid : Prop := huffBackRow.holds Try.pinned (OpenSpec.ofChange huffBackSpec)

/-- ITS FALSE NEIGHBOUR: 'it returns false'. Refute it at one input. -/
def huffBackWrong : ChangeSpec := { name := "huffBack", fn := fun _ => fun
  | [d1, d2] => { results := [.lit (.bool false)], args := [d1, d2] }
  | _ => none }
def HuffBackWrongFalsely : Prop := huffBackRow.holds Try.pinned (OpenSpec.ofChange huffBackWrong)

/- THE SECOND FORM. 'bulk': how many values and letters a reading holds, each counted each time it is reached (what is shared counts as often as it is met; a slice's spare places count too). A statement '..UptoSaid' is the law's where the arguments, and the package variables that the reading takes, are together of bulk at most 1048576: NARROWER than '..Said'. Prove '..Said' where nothing that the law and all that it calls make is longer than what came in: it says more and counts as full. Else prove '..UptoSaid'. A law counts once. -/
mutual
def uptoBulk {H : Type} : DataW H → Nat
  | .lit (.string bytes) => bytes.length + 1
  | .lit _ => 1
  | .nil => 1
  | .ptr d => uptoBulk d + 1
  | .slice elems spare => uptoBulkAll elems + uptoBulkAll spare + 1
  | .agg parts => uptoBulkAll parts + 1
  | .iface _ d => uptoBulk d + 1
  | .map entries => uptoBulkEntries entries + 1
  | .held _ => 1
def uptoBulkAll {H : Type} : List (DataW H) → Nat
  | [] => 0
  | d :: r => uptoBulk d + uptoBulkAll r
def uptoBulkEntries {H : Type} : List (Lit × DataW H) → Nat
  | [] => 0
  | x :: r => uptoBulkEntry x + uptoBulkEntries r
def uptoBulkEntry {H : Type} : Lit × DataW H → Nat
  | (.string bytes, d) => bytes.length + uptoBulk d + 1
  | (_, d) => uptoBulk d + 1
 end
def uptoSmall : (H : Type) → List (DataW H) → Bool := fun _ ds => decide (uptoBulkAll ds ≤ 1048576)
def OpenSpec.upto (s : _root_.Go.ChangeSpec) : _root_.Go.OpenSpec := { _root_.Go.OpenSpec.ofChange s with cond := some uptoSmall }

/-- 'aqulaw5.HuffLengths', WHERE WHAT IT READS IS OF BULK AT MOST 1048576: true; the input reads as it did. -/
def huffLengthsUptoRow : OpenClaim := { program := "ytpbegikdohafbaa", sum := "d5d8da8f465694770b8710fddf9d698e979abb9beb5c6ad1b4f18dafb63dd756", func := "aquatint/aqulaw5.HuffLengths", spec := "huffLengths", unfollowed := true, recurses := true, apart := false, narrowed := true }
def HuffLengthsUptoSaid : Prop := huffLengthsUptoRow.holds Try.pinned (OpenSpec.upto huffLengthsSpec)

/-- 'aqulaw5.HuffCodes', WHERE WHAT IT READS IS OF BULK AT MOST 1048576: true; the input reads as it did. -/
def huffCodesUptoRow : OpenClaim := { program := "ytpbegikdohafbaa", sum := "d5d8da8f465694770b8710fddf9d698e979abb9beb5c6ad1b4f18dafb63dd756", func := "aquatint/aqulaw5.HuffCodes", spec := "huffCodes", unfollowed := true, recurses := true, apart := false, narrowed := true }
def HuffCodesUptoSaid : Prop := huffCodesUptoRow.holds Try.pinned (OpenSpec.upto huffCodesSpec)

/-- 'aqulaw5.HuffFull', WHERE WHAT IT READS IS OF BULK AT MOST 1048576: true; the input reads as it did. -/
def huffFullUptoRow : OpenClaim := { program := "ytpbegikdohafbaa", sum := "d5d8da8f465694770b8710fddf9d698e979abb9beb5c6ad1b4f18dafb63dd756", func := "aquatint/aqulaw5.HuffFull", spec := "huffFull", unfollowed := true, recurses := true, apart := false, narrowed := true }
def HuffFullUptoSaid : Prop := huffFullUptoRow.holds Try.pinned (OpenSpec.upto huffFullSpec)

/-- 'aqulaw5.HuffPrefix', WHERE WHAT IT READS IS OF BULK AT MOST 1048576: true; the input reads as it did. -/
def huffPrefixUptoRow : OpenClaim := { program := "ytpbegikdohafbaa", sum := "d5d8da8f465694770b8710fddf9d698e979abb9beb5c6ad1b4f18dafb63dd756", func := "aquatint/aqulaw5.HuffPrefix", spec := "huffPrefix", unfollowed := true, recurses := true, apart := false, narrowed := true }
def HuffPrefixUptoSaid : Prop := huffPrefixUptoRow.holds Try.pinned (OpenSpec.upto huffPrefixSpec)

/-- 'aqulaw5.HuffBest', WHERE WHAT IT READS IS OF BULK AT MOST 1048576: true; the input reads as it did. -/
def huffBestUptoRow : OpenClaim := { program := "ytpbegikdohafbaa", sum := "d5d8da8f465694770b8710fddf9d698e979abb9beb5c6ad1b4f18dafb63dd756", func := "aquatint/aqulaw5.HuffBest", spec := "huffBest", unfollowed := true, recurses := true, apart := false, narrowed := true }
def HuffBestUptoSaid : Prop := huffBestUptoRow.holds Try.pinned (OpenSpec.upto huffBestSpec)

/-- 'aqulaw5.HuffMore', WHERE WHAT IT READS IS OF BULK AT MOST 1048576: true; the input reads as it did. -/
def huffMoreUptoRow : OpenClaim := { program := "ytpbegikdohafbaa", sum := "d5d8da8f465694770b8710fddf9d698e979abb9beb5c6ad1b4f18dafb63dd756", func := "aquatint/aqulaw5.HuffMore", spec := "huffMore", unfollowed := true, recurses := true, apart := false, narrowed := true }
def HuffMoreUptoSaid : Prop := huffMoreUptoRow.holds Try.pinned (OpenSpec.upto huffMoreSpec)

/-- 'aqulaw5.HuffReads', WHERE WHAT IT READS IS OF BULK AT MOST 1048576: true; the input reads as it did. -/
def huffReadsUptoRow : OpenClaim := { program := "ytpbegikdohafbaa", sum := "d5d8da8f465694770b8710fddf9d698e979abb9beb5c6ad1b4f18dafb63dd756", func := "aquatint/aqulaw5.HuffReads", spec := "huffReads", unfollowed := true, recurses := true, apart := false, narrowed := true }
def HuffReadsUptoSaid : Prop := huffReadsUptoRow.holds Try.pinned (OpenSpec.upto huffReadsSpec)

/-- 'aqulaw5.HuffBack', WHERE WHAT IT READS IS OF BULK AT MOST 1048576: true; the input reads as it did. -/
def huffBackUptoRow : OpenClaim := { program := "ytpbegikdohafbaa", sum := "d5d8da8f465694770b8710fddf9d698e979abb9beb5c6ad1b4f18dafb63dd756", func := "aquatint/aqulaw5.HuffBack", spec := "huffBack", unfollowed := true, recurses := true, apart := false, narrowed := true }
def HuffBackUptoSaid : Prop := huffBackUptoRow.holds Try.pinned (OpenSpec.upto huffBackSpec)

end Rows
end Go.Proofs.Ytpbegikdohafbaa
