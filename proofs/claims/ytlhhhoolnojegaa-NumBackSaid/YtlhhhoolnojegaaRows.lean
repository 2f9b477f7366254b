/-
  No cell of these rows narrows 'for every input' (looked for: loops, veiled, ifaces, maps, wideKeys, modest, calm, conditions, laid).
  DERIVED. THE GIVEN ROWS OF THIS SEAT. 7 by the template 'for every input the law returns true; each argument reads behind the call as it read before'; 0 by the template 'total and deterministic' (their statements: YtlhhhoolnojegaaTotals.lean).
  GIVEN WITH THE SEED: the statements are not yours to turn. If you find one false, say at which input.
  Laid BY PROGRAM, IN A SANDBOX (cutbox-rows.mjs): the forced cells as the released guide's own fill.sh prints them over the translation e5b0961ad8e7cce5… (all of the seat's roots in one cut). By AI agents, Wed Nov 11 2026. No macro, syntax, notation, axiom, sorry.
-/
import Derived.Test.YtlhhhoolnojegaaChecked
import GoSem.Claim
import GoSem.ClaimJoined
import GoSem.ClaimMapViews
import Derived.JoinedTies
import Derived.KernelRfl
namespace Go.Proofs.Ytlhhhoolnojegaa
/- THE CELL 'sum', in the pinned program and in every row, IS THE sha256 OF THE DUMP (.gsa) THAT YtlhhhoolnojegaaProg.lean LOADS. Nothing in Lean hashes anything: it is a label: what it is worth is what the hold of that sum in a sandbox is worth. -/
noncomputable def Try.pinned : Pinned := { name := "ytlhhhoolnojegaa", sum := "e5b0961ad8e7cce5c8913e6cd760d2ab63514e69d69573aaae11b6e24ebc0368", checked := Try.checked }
namespace Rows
def none {H : Type} : Left H := { results := [], args := [] }

/-- 'aqulaw1.NumAdlers': WHATEVER THE INPUT: true; the input reads as it did. -/
def numAdlersSpec : ChangeSpec := { name := "numAdlers", fn := fun _ => fun
  | [d1, d2] => { results := [.lit (.bool true)], args := [d1, d2] }
  | _ => none }
def numAdlersRow : OpenClaim := { program := "ytlhhhoolnojegaa", sum := "e5b0961ad8e7cce5c8913e6cd760d2ab63514e69d69573aaae11b6e24ebc0368", func := "aquatint/aqulaw1.NumAdlers", spec := "numAdlers", apart := false }
def NumAdlersSaid : Prop := numAdlersRow.holds Try.pinned (OpenSpec.ofChange numAdlersSpec)

/-- ITS FALSE NEIGHBOUR: 'it returns false'. Refute it at one input. -/
def numAdlersWrong : ChangeSpec := { name := "numAdlers", fn := fun _ => fun
  | [d1, d2] => { results := [.lit (.bool false)], args := [d1, d2] }
  | _ => none }
def NumAdlersWrongFalsely : Prop := numAdlersRow.holds Try.pinned (OpenSpec.ofChange numAdlersWrong)

/-- 'aqulaw1.NumSums': WHATEVER THE INPUT: true; the input reads as it did. -/
def numSumsSpec : ChangeSpec := { name := "numSums", fn := fun _ => fun
  | [d] => { results := [.lit (.bool true)], args := [d] }
  | _ => none }
def numSumsRow : OpenClaim := { program := "ytlhhhoolnojegaa", sum := "e5b0961ad8e7cce5c8913e6cd760d2ab63514e69d69573aaae11b6e24ebc0368", func := "aquatint/aqulaw1.NumSums", spec := "numSums", apart := false }
def NumSumsSaid : Prop := numSumsRow.holds Try.pinned (OpenSpec.ofChange numSumsSpec)

/-- ITS FALSE NEIGHBOUR: 'it returns false'. Refute it at one input. -/
def numSumsWrong : ChangeSpec := { name := "numSums", fn := fun _ => fun
  | [d] => { results := [.lit (.bool false)], args := [d] }
  | _ => none }
def NumSumsWrongFalsely : Prop := numSumsRow.holds Try.pinned (OpenSpec.ofChange numSumsWrong)

/-- 'aqulaw1.NumJoins': WHATEVER THE INPUT: true; the input reads as it did. -/
def numJoinsSpec : ChangeSpec := { name := "numJoins", fn := fun _ => fun
  | [d1, d2, d3, d4, d5] => { results := [.lit (.bool true)], args := [d1, d2, d3, d4, d5] }
  | _ => none }
def numJoinsRow : OpenClaim := { program := "ytlhhhoolnojegaa", sum := "e5b0961ad8e7cce5c8913e6cd760d2ab63514e69d69573aaae11b6e24ebc0368", func := "aquatint/aqulaw1.NumJoins", spec := "numJoins", apart := false }
def NumJoinsSaid : Prop := numJoinsRow.holds Try.pinned (OpenSpec.ofChange numJoinsSpec)

/-- ITS FALSE NEIGHBOUR: 'it returns false'. Refute it at one input. -/
def numJoinsWrong : ChangeSpec := { name := "numJoins", fn := fun _ => fun
  | [d1, d2, d3, d4, d5] => { results := [.lit (.bool false)], args := [d1, d2, d3, d4, d5] }
  | _ => none }
def NumJoinsWrongFalsely : Prop := numJoinsRow.holds Try.pinned (OpenSpec.ofChange numJoinsWrong)

/-- 'aqulaw1.NumWrites': WHATEVER THE INPUT: true; the input reads as it did. -/
def numWritesSpec : ChangeSpec := { name := "numWrites", fn := fun _ => fun
  | [d1, d2, d3, d4] => { results := [.lit (.bool true)], args := [d1, d2, d3, d4] }
  | _ => none }
def numWritesRow : OpenClaim := { program := "ytlhhhoolnojegaa", sum := "e5b0961ad8e7cce5c8913e6cd760d2ab63514e69d69573aaae11b6e24ebc0368", func := "aquatint/aqulaw1.NumWrites", spec := "numWrites", apart := false }
def NumWritesSaid : Prop := numWritesRow.holds Try.pinned (OpenSpec.ofChange numWritesSpec)

/-- ITS FALSE NEIGHBOUR: 'it returns false'. Refute it at one input. -/
def numWritesWrong : ChangeSpec := { name := "numWrites", fn := fun _ => fun
  | [d1, d2, d3, d4] => { results := [.lit (.bool false)], args := [d1, d2, d3, d4] }
  | _ => none }
def NumWritesWrongFalsely : Prop := numWritesRow.holds Try.pinned (OpenSpec.ofChange numWritesWrong)

/-- 'aqulaw1.NumBounds': WHATEVER THE INPUT: true; the input reads as it did. -/
def numBoundsSpec : ChangeSpec := { name := "numBounds", fn := fun _ => fun
  | [d1, d2, d3] => { results := [.lit (.bool true)], args := [d1, d2, d3] }
  | _ => none }
def numBoundsRow : OpenClaim := { program := "ytlhhhoolnojegaa", sum := "e5b0961ad8e7cce5c8913e6cd760d2ab63514e69d69573aaae11b6e24ebc0368", func := "aquatint/aqulaw1.NumBounds", spec := "numBounds", apart := false }
def NumBoundsSaid : Prop := numBoundsRow.holds Try.pinned (OpenSpec.ofChange numBoundsSpec)

/-- ITS FALSE NEIGHBOUR: 'it returns false'. Refute it at one input. -/
def numBoundsWrong : ChangeSpec := { name := "numBounds", fn := fun _ => fun
  | [d1, d2, d3] => { results := [.lit (.bool false)], args := [d1, d2, d3] }
  | _ => none }
def NumBoundsWrongFalsely : Prop := numBoundsRow.holds Try.pinned (OpenSpec.ofChange numBoundsWrong)

/-- 'aqulaw1.NumTexts': WHATEVER THE INPUT: true; the input reads as it did. -/
def numTextsSpec : ChangeSpec := { name := "numTexts", fn := fun _ => fun
  | [d1, d2] => { results := [.lit (.bool true)], args := [d1, d2] }
  | _ => none }
def numTextsRow : OpenClaim := { program := "ytlhhhoolnojegaa", sum := "e5b0961ad8e7cce5c8913e6cd760d2ab63514e69d69573aaae11b6e24ebc0368", func := "aquatint/aqulaw1.NumTexts", spec := "numTexts", inPlace := ["internal/bytealg.IndexByteString"], apart := false }
def NumTextsSaid : Prop := numTextsRow.holds Try.pinned (OpenSpec.ofChange numTextsSpec)

/-- ITS FALSE NEIGHBOUR: 'it returns false'. Refute it at one input. -/
def numTextsWrong : ChangeSpec := { name := "numTexts", fn := fun _ => fun
  | [d1, d2] => { results := [.lit (.bool false)], args := [d1, d2] }
  | _ => none }
def NumTextsWrongFalsely : Prop := numTextsRow.holds Try.pinned (OpenSpec.ofChange numTextsWrong)

/-- 'aqulaw1.NumBack': WHATEVER THE INPUT: true; the input reads as it did. -/
def numBackSpec : ChangeSpec := { name := "numBack", fn := fun _ => fun
  | [d1, d2, d3] => { results := [.lit (.bool true)], args := [d1, d2, d3] }
  | _ => none }
def numBackRow : OpenClaim := { program := "ytlhhhoolnojegaa", sum := "e5b0961ad8e7cce5c8913e6cd760d2ab63514e69d69573aaae11b6e24ebc0368", func := "aquatint/aqulaw1.NumBack", spec := "numBack", inPlace := ["internal/bytealg.IndexByteString"], apart := false }
def NumBackSaid : Prop := numBackRow.holds Try.pinned (OpenSpec.ofChange numBackSpec)

/-- ITS FALSE NEIGHBOUR: 'it returns false'. Refute it at one input. -/
def numBackWrong : ChangeSpec := { name := "numBack", fn := fun _ => fun
  | [d1, d2, d3] => { results := [.lit (.bool false)], args := [d1, d2, d3] }
  | _ => none }
def NumBackWrongFalsely : Prop := numBackRow.holds Try.pinned (OpenSpec.ofChange numBackWrong)

/- THE SECOND FORM. 'bulk': how many values and letters a reading holds, each counted each time it is reached (what is shared counts as often as it is met; a slice's spare places count too). A statement '..UptoSaid' is the law's where the arguments, and the package variables that the reading takes, are together of bulk at most 1048576: NARROWER than '..Said'. Prove '..Said' where nothing that the law and all that it calls make is longer than what came in: it says more and counts as full. Else prove '..UptoSaid'. A law counts once. -/
mutual
def uptoBulk {H : Type} : DataW H → Nat
  | .lit (.string bytes) => bytes.length + 1
  | .lit _ => 1
  | .nil => 1
  | .ptr d => uptoBulk d + 1
  | .slice elems spare => uptoBulkAll elems + uptoBulkAll spare + 1
  | .agg parts => uptoBulkAll parts + 1
  | .iface _ d => uptoBulk d + 1
  | .map entries => uptoBulkEntries entries + 1
  | .held _ => 1
def uptoBulkAll {H : Type} : List (DataW H) → Nat
  | [] => 0
  | d :: r => uptoBulk d + uptoBulkAll r
def uptoBulkEntries {H : Type} : List (Lit × DataW H) → Nat
  | [] => 0
  | x :: r => uptoBulkEntry x + uptoBulkEntries r
def uptoBulkEntry {H : Type} : Lit × DataW H → Nat
  | (.string bytes, d) => bytes.length + uptoBulk d + 1
  | (_, d) => uptoBulk d + 1
 end
def uptoSmall : (H : Type) → List (DataW H) → Bool := fun _ ds => decide (uptoBulkAll ds ≤ 1048576)
def OpenSpec.upto (s : _root_.Go.ChangeSpec) : _root_.Go.OpenSpec := { _root_.Go.OpenSpec.ofChange s with cond := some uptoSmall }

/-- 'aqulaw1.NumAdlers', WHERE WHAT IT READS IS OF BULK AT MOST 1048576: true; the input reads as it did. -/
def numAdlersUptoRow : OpenClaim := { program := "ytlhhhoolnojegaa", sum := "e5b0961ad8e7cce5c8913e6cd760d2ab63514e69d69573aaae11b6e24ebc0368", func := "aquatint/aqulaw1.NumAdlers", spec := "numAdlers", apart := false, narrowed := true }
def NumAdlersUptoSaid : Prop := numAdlersUptoRow.holds Try.pinned (OpenSpec.upto numAdlersSpec)

/-- 'aqulaw1.NumSums', WHERE WHAT IT READS IS OF BULK AT MOST 1048576: true; the input reads as it did. -/
def numSumsUptoRow : OpenClaim := { program := "ytlhhhoolnojegaa", sum := "e5b0961ad8e7cce5c8913e6cd760d2ab63514e69d69573aaae11b6e24ebc0368", func := "aquatint/aqulaw1.NumSums", spec := "numSums", apart := false, narrowed := true }
def NumSumsUptoSaid : Prop := numSumsUptoRow.holds Try.pinned (OpenSpec.upto numSumsSpec)

/-- 'aqulaw1.NumJoins', WHERE WHAT IT READS IS OF BULK AT MOST 1048576: true; the input reads as it did. -/
def numJoinsUptoRow : OpenClaim := { program := "ytlhhhoolnojegaa", sum := "e5b0961ad8e7cce5c8913e6cd760d2ab63514e69d69573aaae11b6e24ebc0368", func := "aquatint/aqulaw1.NumJoins", spec := "numJoins", apart := false, narrowed := true }
def NumJoinsUptoSaid : Prop := numJoinsUptoRow.holds Try.pinned (OpenSpec.upto numJoinsSpec)

/-- 'aqulaw1.NumWrites', WHERE WHAT IT READS IS OF BULK AT MOST 1048576: true; the input reads as it did. -/
def numWritesUptoRow : OpenClaim := { program := "ytlhhhoolnojegaa", sum := "e5b0961ad8e7cce5c8913e6cd760d2ab63514e69d69573aaae11b6e24ebc0368", func := "aquatint/aqulaw1.NumWrites", spec := "numWrites", apart := false, narrowed := true }
def NumWritesUptoSaid : Prop := numWritesUptoRow.holds Try.pinned (OpenSpec.upto numWritesSpec)

/-- 'aqulaw1.NumBounds', WHERE WHAT IT READS IS OF BULK AT MOST 1048576: true; the input reads as it did. -/
def numBoundsUptoRow : OpenClaim := { program := "ytlhhhoolnojegaa", sum := "e5b0961ad8e7cce5c8913e6cd760d2ab63514e69d69573aaae11b6e24ebc0368", func := "aquatint/aqulaw1.NumBounds", spec := "numBounds", apart := false, narrowed := true }
def NumBoundsUptoSaid : Prop := numBoundsUptoRow.holds Try.pinned (OpenSpec.upto numBoundsSpec)

/-- 'aqulaw1.NumTexts', WHERE WHAT IT READS IS OF BULK AT MOST 1048576: true; the input reads as it did. -/
def numTextsUptoRow : OpenClaim := { program := "ytlhhhoolnojegaa", sum := "e5b0961ad8e7cce5c8913e6cd760d2ab63514e69d69573aaae11b6e24ebc0368", func := "aquatint/aqulaw1.NumTexts", spec := "numTexts", inPlace := ["internal/bytealg.IndexByteString"], apart := false, narrowed := true }
def NumTextsUptoSaid : Prop := numTextsUptoRow.holds Try.pinned (OpenSpec.upto numTextsSpec)

/-- 'aqulaw1.NumBack', WHERE WHAT IT READS IS OF BULK AT MOST 1048576: true; the input reads as it did. -/
def numBackUptoRow : OpenClaim := { program := "ytlhhhoolnojegaa", sum := "e5b0961ad8e7cce5c8913e6cd760d2ab63514e69d69573aaae11b6e24ebc0368", func := "aquatint/aqulaw1.NumBack", spec := "numBack", inPlace := ["internal/bytealg.IndexByteString"], apart := false, narrowed := true }
def NumBackUptoSaid : Prop := numBackUptoRow.holds Try.pinned (OpenSpec.upto numBackSpec)

end Rows
end Go.Proofs.Ytlhhhoolnojegaa
