/-
  No cell of these rows narrows 'for every input' (looked for: loops, veiled, ifaces, maps, wideKeys, modest, calm, conditions, laid).
  DERIVED. THE GIVEN ROWS OF THIS SEAT. 4 by the template 'for every input the law returns true; each argument reads behind the call as it read before'; 0 by the template 'total and deterministic' (their statements: YtmffmijjdpjaiaaTotals.lean).
  GIVEN WITH THE SEED: the statements are not yours to turn. If you find one false, say at which input.
  Laid BY PROGRAM, IN A SANDBOX (cutbox-rows.mjs): the forced cells as the released guide's own fill.sh prints them over the translation 1bd436938bb22b66… (all of the seat's roots in one cut). By AI agents, Wed Nov 11 2026. No macro, syntax, notation, axiom, sorry.
-/
import Derived.Test.YtmffmijjdpjaiaaChecked
import GoSem.Claim
import GoSem.ClaimJoined
import GoSem.ClaimMapViews
import Derived.JoinedTies
import Derived.KernelRfl
namespace Go.Proofs.Ytmffmijjdpjaiaa
/- THE CELL 'sum', in the pinned program and in every row, IS THE sha256 OF THE DUMP (.gsa) THAT YtmffmijjdpjaiaaProg.lean LOADS. Nothing in Lean hashes anything: it is a label: what it is worth is what the hold of that sum in a sandbox is worth. -/
noncomputable def Try.pinned : Pinned := { name := "ytmffmijjdpjaiaa", sum := "1bd436938bb22b66243f9f00085f7ef6691815acd7efa2b06580cfda76eadaa0", checked := Try.checked }
namespace Rows
def none {H : Type} : Left H := { results := [], args := [] }

/-- 'aqulaw23.JoinSides': WHATEVER THE INPUT: true; the input reads as it did. -/
def joinSidesSpec : ChangeSpec := { name := "joinSides", fn := fun _ => fun
  | [d1, d2, d3] => { results := [.lit (.bool true)], args := [d1, d2, d3] }
  | _ => none }
def joinSidesRow : OpenClaim := { program := "ytmffmijjdpjaiaa", sum := "1bd436938bb22b66243f9f00085f7ef6691815acd7efa2b06580cfda76eadaa0", func := "aquatint/aqulaw23.JoinSides", spec := "joinSides", inPlace := ["internal/bytealg.IndexByteString"], unfollowed := true, recurses := true, apart := false }
def JoinSidesSaid : Prop := joinSidesRow.holds Try.pinned (OpenSpec.ofChange joinSidesSpec)

/-- ITS FALSE NEIGHBOUR: 'it returns false'. Refute it at one input. -/
def joinSidesWrong : ChangeSpec := { name := "joinSides", fn := fun _ => fun
  | [d1, d2, d3] => { results := [.lit (.bool false)], args := [d1, d2, d3] }
  | _ => none }
def JoinSidesWrongFalsely : Prop := joinSidesRow.holds Try.pinned (OpenSpec.ofChange joinSidesWrong)

/-- 'aqulaw23.JoinChanges': WHATEVER THE INPUT: true; the input reads as it did. -/
def joinChangesSpec : ChangeSpec := { name := "joinChanges", fn := fun _ => fun
  | [d1, d2, d3] => { results := [.lit (.bool true)], args := [d1, d2, d3] }
  | _ => none }
def joinChangesRow : OpenClaim := { program := "ytmffmijjdpjaiaa", sum := "1bd436938bb22b66243f9f00085f7ef6691815acd7efa2b06580cfda76eadaa0", func := "aquatint/aqulaw23.JoinChanges", spec := "joinChanges", inPlace := ["internal/bytealg.IndexByteString"], unfollowed := true, recurses := true, apart := false }
def JoinChangesSaid : Prop := joinChangesRow.holds Try.pinned (OpenSpec.ofChange joinChangesSpec)

/-- ITS FALSE NEIGHBOUR: 'it returns false'. Refute it at one input. -/
def joinChangesWrong : ChangeSpec := { name := "joinChanges", fn := fun _ => fun
  | [d1, d2, d3] => { results := [.lit (.bool false)], args := [d1, d2, d3] }
  | _ => none }
def JoinChangesWrongFalsely : Prop := joinChangesRow.holds Try.pinned (OpenSpec.ofChange joinChangesWrong)

/-- 'aqulaw23.JoinResolves': WHATEVER THE INPUT: true; the input reads as it did. -/
def joinResolvesSpec : ChangeSpec := { name := "joinResolves", fn := fun _ => fun
  | [d1, d2, d3] => { results := [.lit (.bool true)], args := [d1, d2, d3] }
  | _ => none }
def joinResolvesRow : OpenClaim := { program := "ytmffmijjdpjaiaa", sum := "1bd436938bb22b66243f9f00085f7ef6691815acd7efa2b06580cfda76eadaa0", func := "aquatint/aqulaw23.JoinResolves", spec := "joinResolves", inPlace := ["internal/bytealg.IndexByteString"], unfollowed := true, recurses := true, apart := false }
def JoinResolvesSaid : Prop := joinResolvesRow.holds Try.pinned (OpenSpec.ofChange joinResolvesSpec)

/-- ITS FALSE NEIGHBOUR: 'it returns false'. Refute it at one input. -/
def joinResolvesWrong : ChangeSpec := { name := "joinResolves", fn := fun _ => fun
  | [d1, d2, d3] => { results := [.lit (.bool false)], args := [d1, d2, d3] }
  | _ => none }
def JoinResolvesWrongFalsely : Prop := joinResolvesRow.holds Try.pinned (OpenSpec.ofChange joinResolvesWrong)

/-- 'aqulaw23.JoinMerges': WHATEVER THE INPUT: true; the input reads as it did. -/
def joinMergesSpec : ChangeSpec := { name := "joinMerges", fn := fun _ => fun
  | [d1, d2, d3, d4] => { results := [.lit (.bool true)], args := [d1, d2, d3, d4] }
  | _ => none }
def joinMergesRow : OpenClaim := { program := "ytmffmijjdpjaiaa", sum := "1bd436938bb22b66243f9f00085f7ef6691815acd7efa2b06580cfda76eadaa0", func := "aquatint/aqulaw23.JoinMerges", spec := "joinMerges", inPlace := ["internal/bytealg.IndexByteString"], unfollowed := true, recurses := true, apart := false }
def JoinMergesSaid : Prop := joinMergesRow.holds Try.pinned (OpenSpec.ofChange joinMergesSpec)

/-- ITS FALSE NEIGHBOUR: 'it returns false'. Refute it at one input. -/
def joinMergesWrong : ChangeSpec := { name := "joinMerges", fn := fun _ => fun
  | [d1, d2, d3, d4] => { results := [.lit (.bool false)], args := [d1, d2, d3, d4] }
  | _ => none }
def JoinMergesWrongFalsely : Prop := joinMergesRow.holds Try.pinned (OpenSpec.ofChange joinMergesWrong)

/- THE SECOND FORM. 'bulk': how many values and letters a reading holds, each counted each time it is reached (what is shared counts as often as it is met; a slice's spare places count too). A statement '..UptoSaid' is the law's where the arguments, and the package variables that the reading takes, are together of bulk at most 1048576: NARROWER than '..Said'. Prove '..Said' where nothing that the law and all that it calls make is longer than what came in: it says more and counts as full. Else prove '..UptoSaid'. A law counts once. -/
mutual
def uptoBulk {H : Type} : DataW H → Nat
  | .lit (.string bytes) => bytes.length + 1
  | .lit _ => 1
  | .nil => 1
  | .ptr d => uptoBulk d + 1
  | .slice elems spare => uptoBulkAll elems + uptoBulkAll spare + 1
  | .agg parts => uptoBulkAll parts + 1
  | .iface _ d => uptoBulk d + 1
  | .map entries => uptoBulkEntries entries + 1
  | .held _ => 1
def uptoBulkAll {H : Type} : List (DataW H) → Nat
  | [] => 0
  | d :: r => uptoBulk d + uptoBulkAll r
def uptoBulkEntries {H : Type} : List (Lit × DataW H) → Nat
  | [] => 0
  | x :: r => uptoBulkEntry x + uptoBulkEntries r
def uptoBulkEntry {H : Type} : Lit × DataW H → Nat
  | (.string bytes, d) => bytes.length + uptoBulk d + 1
  | (_, d) => uptoBulk d + 1
 end
def uptoSmall : (H : Type) → List (DataW H) → Bool := fun _ ds => decide (uptoBulkAll ds ≤ 1048576)
def OpenSpec.upto (s : _root_.Go.ChangeSpec) : _root_.Go.OpenSpec := { _root_.Go.OpenSpec.ofChange s with cond := some uptoSmall }

/-- 'aqulaw23.JoinSides', WHERE WHAT IT READS IS OF BULK AT MOST 1048576: true; the input reads as it did. -/
def joinSidesUptoRow : OpenClaim := { program := "ytmffmijjdpjaiaa", sum := "1bd436938bb22b66243f9f00085f7ef6691815acd7efa2b06580cfda76eadaa0", func := "aquatint/aqulaw23.JoinSides", spec := "joinSides", inPlace := ["internal/bytealg.IndexByteString"], unfollowed := true, recurses := true, apart := false, narrowed := true }
def JoinSidesUptoSaid : Prop := joinSidesUptoRow.holds Try.pinned (OpenSpec.upto joinSidesSpec)

/-- 'aqulaw23.JoinChanges', WHERE WHAT IT READS IS OF BULK AT MOST 1048576: true; the input reads as it did. -/
def joinChangesUptoRow : OpenClaim := { program := "ytmffmijjdpjaiaa", sum := "1bd436938bb22b66243f9f00085f7ef6691815acd7efa2b06580cfda76eadaa0", func := "aquatint/aqulaw23.JoinChanges", spec := "joinChanges", inPlace := ["internal/bytealg.IndexByteString"], unfollowed := true, recurses := true, apart := false, narrowed := true }
def JoinChangesUptoSaid : Prop := joinChangesUptoRow.holds Try.pinned (OpenSpec.upto joinChangesSpec)

/-- 'aqulaw23.JoinResolves', WHERE WHAT IT READS IS OF BULK AT MOST 1048576: true; the input reads as it did. -/
def joinResolvesUptoRow : OpenClaim := { program := "ytmffmijjdpjaiaa", sum := "1bd436938bb22b66243f9f00085f7ef6691815acd7efa2b06580cfda76eadaa0", func := "aquatint/aqulaw23.JoinResolves", spec := "joinResolves", inPlace := ["internal/bytealg.IndexByteString"], unfollowed := true, recurses := true, apart := false, narrowed := true }
def JoinResolvesUptoSaid : Prop := joinResolvesUptoRow.holds Try.pinned (OpenSpec.upto joinResolvesSpec)

/-- 'aqulaw23.JoinMerges', WHERE WHAT IT READS IS OF BULK AT MOST 1048576: true; the input reads as it did. -/
def joinMergesUptoRow : OpenClaim := { program := "ytmffmijjdpjaiaa", sum := "1bd436938bb22b66243f9f00085f7ef6691815acd7efa2b06580cfda76eadaa0", func := "aquatint/aqulaw23.JoinMerges", spec := "joinMerges", inPlace := ["internal/bytealg.IndexByteString"], unfollowed := true, recurses := true, apart := false, narrowed := true }
def JoinMergesUptoSaid : Prop := joinMergesUptoRow.holds Try.pinned (OpenSpec.upto joinMergesSpec)

end Rows
end Go.Proofs.Ytmffmijjdpjaiaa
