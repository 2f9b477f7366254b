/-
  No cell of these rows narrows 'for every input' (looked for: loops, veiled, ifaces, maps, wideKeys, modest, calm, conditions, laid).
  DERIVED. THE GIVEN ROWS OF THIS SEAT. 10 by the template 'for every input the law returns true; each argument reads behind the call as it read before'; 0 by the template 'total and deterministic' (their statements: YtcancpnepfnhmaaTotals.lean).
  GIVEN WITH THE SEED: the statements are not yours to turn. If you find one false, say at which input.
  Laid BY PROGRAM, IN A SANDBOX (cutbox-rows.mjs): the forced cells as the released guide's own fill.sh prints them over the translation 97ae9596deb22289… (all of the seat's roots in one cut). By AI agents, Wed Nov 11 2026. No macro, syntax, notation, axiom, sorry.
-/
import Derived.Test.YtcancpnepfnhmaaChecked
import GoSem.Claim
import GoSem.ClaimJoined
import GoSem.ClaimMapViews
import Derived.JoinedTies
import Derived.KernelRfl
namespace Go.Proofs.Ytcancpnepfnhmaa
/- THE CELL 'sum', in the pinned program and in every row, IS THE sha256 OF THE DUMP (.gsa) THAT YtcancpnepfnhmaaProg.lean LOADS. Nothing in Lean hashes anything: it is a label: what it is worth is what the hold of that sum in a sandbox is worth. -/
noncomputable def Try.pinned : Pinned := { name := "ytcancpnepfnhmaa", sum := "97ae9596deb222890e256f78c14ddc21c1446330445e949c20e964577dc516a9", checked := Try.checked }
namespace Rows
def none {H : Type} : Left H := { results := [], args := [] }

/-- 'aqulaw7.FlateIn': WHATEVER THE INPUT: true; the input reads as it did. -/
def flateInSpec : ChangeSpec := { name := "flateIn", fn := fun _ => fun
  | [d1, d2] => { results := [.lit (.bool true)], args := [d1, d2] }
  | _ => none }
def flateInRow : OpenClaim := { program := "ytcancpnepfnhmaa", sum := "97ae9596deb222890e256f78c14ddc21c1446330445e949c20e964577dc516a9", func := "aquatint/aqulaw7.FlateIn", spec := "flateIn", unfollowed := true, recurses := true, plainKeys := false, apart := false }
def FlateInSaid : Prop := flateInRow.holds Try.pinned (OpenSpec.ofChange flateInSpec)

/-- ITS FALSE NEIGHBOUR: 'it returns false'. Refute it at one input. -/
def flateInWrong : ChangeSpec := { name := "flateIn", fn := fun _ => fun
  | [d1, d2] => { results := [.lit (.bool false)], args := [d1, d2] }
  | _ => none }
def FlateInWrongFalsely : Prop := flateInRow.holds Try.pinned (OpenSpec.ofChange flateInWrong)

/-- 'aqulaw7.FlateBack': WHATEVER THE INPUT: true; the input reads as it did. -/
def flateBackSpec : ChangeSpec := { name := "flateBack", fn := fun _ => fun
  | [d1, d2, d3] => { results := [.lit (.bool true)], args := [d1, d2, d3] }
  | _ => none }
def flateBackRow : OpenClaim := { program := "ytcancpnepfnhmaa", sum := "97ae9596deb222890e256f78c14ddc21c1446330445e949c20e964577dc516a9", func := "aquatint/aqulaw7.FlateBack", spec := "flateBack", unfollowed := true, recurses := true, plainKeys := false, apart := false }
def FlateBackSaid : Prop := flateBackRow.holds Try.pinned (OpenSpec.ofChange flateBackSpec)

/-- ITS FALSE NEIGHBOUR: 'it returns false'. Refute it at one input. -/
def flateBackWrong : ChangeSpec := { name := "flateBack", fn := fun _ => fun
  | [d1, d2, d3] => { results := [.lit (.bool false)], args := [d1, d2, d3] }
  | _ => none }
def FlateBackWrongFalsely : Prop := flateBackRow.holds Try.pinned (OpenSpec.ofChange flateBackWrong)

/-- 'aqulaw7.FlateCuts': WHATEVER THE INPUT: true; the input reads as it did. -/
def flateCutsSpec : ChangeSpec := { name := "flateCuts", fn := fun _ => fun
  | [d1, d2, d3] => { results := [.lit (.bool true)], args := [d1, d2, d3] }
  | _ => none }
def flateCutsRow : OpenClaim := { program := "ytcancpnepfnhmaa", sum := "97ae9596deb222890e256f78c14ddc21c1446330445e949c20e964577dc516a9", func := "aquatint/aqulaw7.FlateCuts", spec := "flateCuts", unfollowed := true, recurses := true, plainKeys := false, apart := false }
def FlateCutsSaid : Prop := flateCutsRow.holds Try.pinned (OpenSpec.ofChange flateCutsSpec)

/-- ITS FALSE NEIGHBOUR: 'it returns false'. Refute it at one input. -/
def flateCutsWrong : ChangeSpec := { name := "flateCuts", fn := fun _ => fun
  | [d1, d2, d3] => { results := [.lit (.bool false)], args := [d1, d2, d3] }
  | _ => none }
def FlateCutsWrongFalsely : Prop := flateCutsRow.holds Try.pinned (OpenSpec.ofChange flateCutsWrong)

/-- 'aqulaw7.FlateSymbols': WHATEVER THE INPUT: true; the input reads as it did. -/
def flateSymbolsSpec : ChangeSpec := { name := "flateSymbols", fn := fun _ => fun
  | [d1, d2] => { results := [.lit (.bool true)], args := [d1, d2] }
  | _ => none }
def flateSymbolsRow : OpenClaim := { program := "ytcancpnepfnhmaa", sum := "97ae9596deb222890e256f78c14ddc21c1446330445e949c20e964577dc516a9", func := "aquatint/aqulaw7.FlateSymbols", spec := "flateSymbols", unfollowed := true, recurses := true, plainKeys := false, apart := false }
def FlateSymbolsSaid : Prop := flateSymbolsRow.holds Try.pinned (OpenSpec.ofChange flateSymbolsSpec)

/-- ITS FALSE NEIGHBOUR: 'it returns false'. Refute it at one input. -/
def flateSymbolsWrong : ChangeSpec := { name := "flateSymbols", fn := fun _ => fun
  | [d1, d2] => { results := [.lit (.bool false)], args := [d1, d2] }
  | _ => none }
def FlateSymbolsWrongFalsely : Prop := flateSymbolsRow.holds Try.pinned (OpenSpec.ofChange flateSymbolsWrong)

/-- 'aqulaw7.FlateFixed': WHATEVER THE INPUT: true; the input reads as it did. -/
def flateFixedSpec : ChangeSpec := { name := "flateFixed", fn := fun _ => fun
  | [d] => { results := [.lit (.bool true)], args := [d] }
  | _ => none }
def flateFixedRow : OpenClaim := { program := "ytcancpnepfnhmaa", sum := "97ae9596deb222890e256f78c14ddc21c1446330445e949c20e964577dc516a9", func := "aquatint/aqulaw7.FlateFixed", spec := "flateFixed", unfollowed := true, recurses := true, plainKeys := false, apart := false }
def FlateFixedSaid : Prop := flateFixedRow.holds Try.pinned (OpenSpec.ofChange flateFixedSpec)

/-- ITS FALSE NEIGHBOUR: 'it returns false'. Refute it at one input. -/
def flateFixedWrong : ChangeSpec := { name := "flateFixed", fn := fun _ => fun
  | [d] => { results := [.lit (.bool false)], args := [d] }
  | _ => none }
def FlateFixedWrongFalsely : Prop := flateFixedRow.holds Try.pinned (OpenSpec.ofChange flateFixedWrong)

/-- 'aqulaw7.FlateStored': WHATEVER THE INPUT: true; the input reads as it did. -/
def flateStoredSpec : ChangeSpec := { name := "flateStored", fn := fun _ => fun
  | [d] => { results := [.lit (.bool true)], args := [d] }
  | _ => none }
def flateStoredRow : OpenClaim := { program := "ytcancpnepfnhmaa", sum := "97ae9596deb222890e256f78c14ddc21c1446330445e949c20e964577dc516a9", func := "aquatint/aqulaw7.FlateStored", spec := "flateStored", unfollowed := true, recurses := true, plainKeys := false, apart := false }
def FlateStoredSaid : Prop := flateStoredRow.holds Try.pinned (OpenSpec.ofChange flateStoredSpec)

/-- ITS FALSE NEIGHBOUR: 'it returns false'. Refute it at one input. -/
def flateStoredWrong : ChangeSpec := { name := "flateStored", fn := fun _ => fun
  | [d] => { results := [.lit (.bool false)], args := [d] }
  | _ => none }
def FlateStoredWrongFalsely : Prop := flateStoredRow.holds Try.pinned (OpenSpec.ofChange flateStoredWrong)

/-- 'aqulaw7.FlateBest': WHATEVER THE INPUT: true; the input reads as it did. -/
def flateBestSpec : ChangeSpec := { name := "flateBest", fn := fun _ => fun
  | [d] => { results := [.lit (.bool true)], args := [d] }
  | _ => none }
def flateBestRow : OpenClaim := { program := "ytcancpnepfnhmaa", sum := "97ae9596deb222890e256f78c14ddc21c1446330445e949c20e964577dc516a9", func := "aquatint/aqulaw7.FlateBest", spec := "flateBest", unfollowed := true, recurses := true, plainKeys := false, apart := false }
def FlateBestSaid : Prop := flateBestRow.holds Try.pinned (OpenSpec.ofChange flateBestSpec)

/-- ITS FALSE NEIGHBOUR: 'it returns false'. Refute it at one input. -/
def flateBestWrong : ChangeSpec := { name := "flateBest", fn := fun _ => fun
  | [d] => { results := [.lit (.bool false)], args := [d] }
  | _ => none }
def FlateBestWrongFalsely : Prop := flateBestRow.holds Try.pinned (OpenSpec.ofChange flateBestWrong)

/-- 'aqulaw8.ZlibParts': WHATEVER THE INPUT: true; the input reads as it did. -/
def zlibPartsSpec : ChangeSpec := { name := "zlibParts", fn := fun _ => fun
  | [d] => { results := [.lit (.bool true)], args := [d] }
  | _ => none }
def zlibPartsRow : OpenClaim := { program := "ytcancpnepfnhmaa", sum := "97ae9596deb222890e256f78c14ddc21c1446330445e949c20e964577dc516a9", func := "aquatint/aqulaw8.ZlibParts", spec := "zlibParts", unfollowed := true, recurses := true, plainKeys := false, apart := false }
def ZlibPartsSaid : Prop := zlibPartsRow.holds Try.pinned (OpenSpec.ofChange zlibPartsSpec)

/-- ITS FALSE NEIGHBOUR: 'it returns false'. Refute it at one input. -/
def zlibPartsWrong : ChangeSpec := { name := "zlibParts", fn := fun _ => fun
  | [d] => { results := [.lit (.bool false)], args := [d] }
  | _ => none }
def ZlibPartsWrongFalsely : Prop := zlibPartsRow.holds Try.pinned (OpenSpec.ofChange zlibPartsWrong)

/-- 'aqulaw13.PngPasses': WHATEVER THE INPUT: true; the input reads as it did. -/
def pngPassesSpec : ChangeSpec := { name := "pngPasses", fn := fun _ => fun
  | [d] => { results := [.lit (.bool true)], args := [d] }
  | _ => none }
def pngPassesRow : OpenClaim := { program := "ytcancpnepfnhmaa", sum := "97ae9596deb222890e256f78c14ddc21c1446330445e949c20e964577dc516a9", func := "aquatint/aqulaw13.PngPasses", spec := "pngPasses", unfollowed := true, recurses := true, plainKeys := false, apart := false }
def PngPassesSaid : Prop := pngPassesRow.holds Try.pinned (OpenSpec.ofChange pngPassesSpec)

/-- ITS FALSE NEIGHBOUR: 'it returns false'. Refute it at one input. -/
def pngPassesWrong : ChangeSpec := { name := "pngPasses", fn := fun _ => fun
  | [d] => { results := [.lit (.bool false)], args := [d] }
  | _ => none }
def PngPassesWrongFalsely : Prop := pngPassesRow.holds Try.pinned (OpenSpec.ofChange pngPassesWrong)

/-- 'aqulaw8.ZlibBack': WHATEVER THE INPUT: true; the input reads as it did. -/
def zlibBackSpec : ChangeSpec := { name := "zlibBack", fn := fun _ => fun
  | [d1, d2, d3] => { results := [.lit (.bool true)], args := [d1, d2, d3] }
  | _ => none }
def zlibBackRow : OpenClaim := { program := "ytcancpnepfnhmaa", sum := "97ae9596deb222890e256f78c14ddc21c1446330445e949c20e964577dc516a9", func := "aquatint/aqulaw8.ZlibBack", spec := "zlibBack", unfollowed := true, recurses := true, plainKeys := false, apart := false }
def ZlibBackSaid : Prop := zlibBackRow.holds Try.pinned (OpenSpec.ofChange zlibBackSpec)

/-- ITS FALSE NEIGHBOUR: 'it returns false'. Refute it at one input. -/
def zlibBackWrong : ChangeSpec := { name := "zlibBack", fn := fun _ => fun
  | [d1, d2, d3] => { results := [.lit (.bool false)], args := [d1, d2, d3] }
  | _ => none }
def ZlibBackWrongFalsely : Prop := zlibBackRow.holds Try.pinned (OpenSpec.ofChange zlibBackWrong)

/- THE SECOND FORM. 'bulk': how many values and letters a reading holds, each counted each time it is reached (what is shared counts as often as it is met; a slice's spare places count too). A statement '..UptoSaid' is the law's where the arguments, and the package variables that the reading takes, are together of bulk at most 1048576: NARROWER than '..Said'. Prove '..Said' where nothing that the law and all that it calls make is longer than what came in: it says more and counts as full. Else prove '..UptoSaid'. A law counts once. -/
mutual
def uptoBulk {H : Type} : DataW H → Nat
  | .lit (.string bytes) => bytes.length + 1
  | .lit _ => 1
  | .nil => 1
  | .ptr d => uptoBulk d + 1
  | .slice elems spare => uptoBulkAll elems + uptoBulkAll spare + 1
  | .agg parts => uptoBulkAll parts + 1
  | .iface _ d => uptoBulk d + 1
  | .map entries => uptoBulkEntries entries + 1
  | .held _ => 1
def uptoBulkAll {H : Type} : List (DataW H) → Nat
  | [] => 0
  | d :: r => uptoBulk d + uptoBulkAll r
def uptoBulkEntries {H : Type} : List (Lit × DataW H) → Nat
  | [] => 0
  | x :: r => uptoBulkEntry x + uptoBulkEntries r
def uptoBulkEntry {H : Type} : Lit × DataW H → Nat
  | (.string bytes, d) => bytes.length + uptoBulk d + 1
  | (_, d) => uptoBulk d + 1
 end
def uptoSmall : (H : Type) → List (DataW H) → Bool := fun _ ds => decide (uptoBulkAll ds ≤ 1048576)
def OpenSpec.upto (s : _root_.Go.ChangeSpec) : _root_.Go.OpenSpec := { _root_.Go.OpenSpec.ofChange s with cond := some uptoSmall }

/-- 'aqulaw7.FlateIn', WHERE WHAT IT READS IS OF BULK AT MOST 1048576: true; the input reads as it did. -/
def flateInUptoRow : OpenClaim := { program := "ytcancpnepfnhmaa", sum := "97ae9596deb222890e256f78c14ddc21c1446330445e949c20e964577dc516a9", func := "aquatint/aqulaw7.FlateIn", spec := "flateIn", unfollowed := true, recurses := true, plainKeys := false, apart := false, narrowed := true }
def FlateInUptoSaid : Prop := flateInUptoRow.holds Try.pinned (OpenSpec.upto flateInSpec)

/-- 'aqulaw7.FlateBack', WHERE WHAT IT READS IS OF BULK AT MOST 1048576: true; the input reads as it did. -/
def flateBackUptoRow : OpenClaim := { program := "ytcancpnepfnhmaa", sum := "97ae9596deb222890e256f78c14ddc21c1446330445e949c20e964577dc516a9", func := "aquatint/aqulaw7.FlateBack", spec := "flateBack", unfollowed := true, recurses := true, plainKeys := false, apart := false, narrowed := true }
def FlateBackUptoSaid : Prop := flateBackUptoRow.holds Try.pinned (OpenSpec.upto flateBackSpec)

/-- 'aqulaw7.FlateCuts', WHERE WHAT IT READS IS OF BULK AT MOST 1048576: true; the input reads as it did. -/
def flateCutsUptoRow : OpenClaim := { program := "ytcancpnepfnhmaa", sum := "97ae9596deb222890e256f78c14ddc21c1446330445e949c20e964577dc516a9", func := "aquatint/aqulaw7.FlateCuts", spec := "flateCuts", unfollowed := true, recurses := true, plainKeys := false, apart := false, narrowed := true }
def FlateCutsUptoSaid : Prop := flateCutsUptoRow.holds Try.pinned (OpenSpec.upto flateCutsSpec)

/-- 'aqulaw7.FlateSymbols', WHERE WHAT IT READS IS OF BULK AT MOST 1048576: true; the input reads as it did. -/
def flateSymbolsUptoRow : OpenClaim := { program := "ytcancpnepfnhmaa", sum := "97ae9596deb222890e256f78c14ddc21c1446330445e949c20e964577dc516a9", func := "aquatint/aqulaw7.FlateSymbols", spec := "flateSymbols", unfollowed := true, recurses := true, plainKeys := false, apart := false, narrowed := true }
def FlateSymbolsUptoSaid : Prop := flateSymbolsUptoRow.holds Try.pinned (OpenSpec.upto flateSymbolsSpec)

/-- 'aqulaw7.FlateFixed', WHERE WHAT IT READS IS OF BULK AT MOST 1048576: true; the input reads as it did. -/
def flateFixedUptoRow : OpenClaim := { program := "ytcancpnepfnhmaa", sum := "97ae9596deb222890e256f78c14ddc21c1446330445e949c20e964577dc516a9", func := "aquatint/aqulaw7.FlateFixed", spec := "flateFixed", unfollowed := true, recurses := true, plainKeys := false, apart := false, narrowed := true }
def FlateFixedUptoSaid : Prop := flateFixedUptoRow.holds Try.pinned (OpenSpec.upto flateFixedSpec)

/-- 'aqulaw7.FlateStored', WHERE WHAT IT READS IS OF BULK AT MOST 1048576: true; the input reads as it did. -/
def flateStoredUptoRow : OpenClaim := { program := "ytcancpnepfnhmaa", sum := "97ae9596deb222890e256f78c14ddc21c1446330445e949c20e964577dc516a9", func := "aquatint/aqulaw7.FlateStored", spec := "flateStored", unfollowed := true, recurses := true, plainKeys := false, apart := false, narrowed := true }
def FlateStoredUptoSaid : Prop := flateStoredUptoRow.holds Try.pinned (OpenSpec.upto flateStoredSpec)

/-- 'aqulaw7.FlateBest', WHERE WHAT IT READS IS OF BULK AT MOST 1048576: true; the input reads as it did. -/
def flateBestUptoRow : OpenClaim := { program := "ytcancpnepfnhmaa", sum := "97ae9596deb222890e256f78c14ddc21c1446330445e949c20e964577dc516a9", func := "aquatint/aqulaw7.FlateBest", spec := "flateBest", unfollowed := true, recurses := true, plainKeys := false, apart := false, narrowed := true }
def FlateBestUptoSaid : Prop := flateBestUptoRow.holds Try.pinned (OpenSpec.upto flateBestSpec)

/-- 'aqulaw8.ZlibParts', WHERE WHAT IT READS IS OF BULK AT MOST 1048576: true; the input reads as it did. -/
def zlibPartsUptoRow : OpenClaim := { program := "ytcancpnepfnhmaa", sum := "97ae9596deb222890e256f78c14ddc21c1446330445e949c20e964577dc516a9", func := "aquatint/aqulaw8.ZlibParts", spec := "zlibParts", unfollowed := true, recurses := true, plainKeys := false, apart := false, narrowed := true }
def ZlibPartsUptoSaid : Prop := zlibPartsUptoRow.holds Try.pinned (OpenSpec.upto zlibPartsSpec)

/-- 'aqulaw13.PngPasses', WHERE WHAT IT READS IS OF BULK AT MOST 1048576: true; the input reads as it did. -/
def pngPassesUptoRow : OpenClaim := { program := "ytcancpnepfnhmaa", sum := "97ae9596deb222890e256f78c14ddc21c1446330445e949c20e964577dc516a9", func := "aquatint/aqulaw13.PngPasses", spec := "pngPasses", unfollowed := true, recurses := true, plainKeys := false, apart := false, narrowed := true }
def PngPassesUptoSaid : Prop := pngPassesUptoRow.holds Try.pinned (OpenSpec.upto pngPassesSpec)

/-- 'aqulaw8.ZlibBack', WHERE WHAT IT READS IS OF BULK AT MOST 1048576: true; the input reads as it did. -/
def zlibBackUptoRow : OpenClaim := { program := "ytcancpnepfnhmaa", sum := "97ae9596deb222890e256f78c14ddc21c1446330445e949c20e964577dc516a9", func := "aquatint/aqulaw8.ZlibBack", spec := "zlibBack", unfollowed := true, recurses := true, plainKeys := false, apart := false, narrowed := true }
def ZlibBackUptoSaid : Prop := zlibBackUptoRow.holds Try.pinned (OpenSpec.upto zlibBackSpec)

end Rows
end Go.Proofs.Ytcancpnepfnhmaa
