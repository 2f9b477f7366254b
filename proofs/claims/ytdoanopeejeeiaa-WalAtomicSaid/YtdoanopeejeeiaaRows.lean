/-
  No cell of these rows narrows 'for every input' (looked for: loops, veiled, ifaces, maps, wideKeys, modest, calm, conditions, laid).
  DERIVED. THE GIVEN ROWS OF THIS SEAT. 3 by the template 'for every input the law returns true; each argument reads behind the call as it read before'; 0 by the template 'total and deterministic' (their statements: YtdoanopeejeeiaaTotals.lean).
  GIVEN WITH THE SEED: the statements are not yours to turn. If you find one false, say at which input.
  Laid BY PROGRAM, IN A SANDBOX (cutbox-rows.mjs): the forced cells as the released guide's own fill.sh prints them over the translation 1a9261cb6f10ca61… (all of the seat's roots in one cut). By AI agents, Wed Nov 11 2026. No macro, syntax, notation, axiom, sorry.
-/
import Derived.Test.YtdoanopeejeeiaaChecked
import GoSem.Claim
import GoSem.ClaimJoined
import GoSem.ClaimMapViews
import Derived.JoinedTies
import Derived.KernelRfl
namespace Go.Proofs.Ytdoanopeejeeiaa
/- THE CELL 'sum', in the pinned program and in every row, IS THE sha256 OF THE DUMP (.gsa) THAT YtdoanopeejeeiaaProg.lean LOADS. Nothing in Lean hashes anything: it is a label: what it is worth is what the hold of that sum in a sandbox is worth. -/
noncomputable def Try.pinned : Pinned := { name := "ytdoanopeejeeiaa", sum := "1a9261cb6f10ca612f25b1e47c8d2b37027e446c2dc3f2ef4004db053bed50c1", checked := Try.checked }
namespace Rows
def none {H : Type} : Left H := { results := [], args := [] }

/-- 'aqulaw15.WalRings': WHATEVER THE INPUT: true; the input reads as it did. -/
def walRingsSpec : ChangeSpec := { name := "walRings", fn := fun _ => fun
  | [d1, d2, d3] => { results := [.lit (.bool true)], args := [d1, d2, d3] }
  | _ => none }
def walRingsRow : OpenClaim := { program := "ytdoanopeejeeiaa", sum := "1a9261cb6f10ca612f25b1e47c8d2b37027e446c2dc3f2ef4004db053bed50c1", func := "aquatint/aqulaw15.WalRings", spec := "walRings", inPlace := ["internal/bytealg.MakeNoZero", "maps.clone"], unfollowed := true, recurses := true, apart := false }
def WalRingsSaid : Prop := walRingsRow.holds Try.pinned (OpenSpec.ofChange walRingsSpec)

/-- ITS FALSE NEIGHBOUR: 'it returns false'. Refute it at one input. -/
def walRingsWrong : ChangeSpec := { name := "walRings", fn := fun _ => fun
  | [d1, d2, d3] => { results := [.lit (.bool false)], args := [d1, d2, d3] }
  | _ => none }
def WalRingsWrongFalsely : Prop := walRingsRow.holds Try.pinned (OpenSpec.ofChange walRingsWrong)

/-- 'aqulaw15.WalQuiet': WHATEVER THE INPUT: true; the input reads as it did. -/
def walQuietSpec : ChangeSpec := { name := "walQuiet", fn := fun _ => fun
  | [d1, d2, d3, d4, d5] => { results := [.lit (.bool true)], args := [d1, d2, d3, d4, d5] }
  | _ => none }
def walQuietRow : OpenClaim := { program := "ytdoanopeejeeiaa", sum := "1a9261cb6f10ca612f25b1e47c8d2b37027e446c2dc3f2ef4004db053bed50c1", func := "aquatint/aqulaw15.WalQuiet", spec := "walQuiet", inPlace := ["internal/bytealg.MakeNoZero", "maps.clone"], unfollowed := true, recurses := true, apart := false }
def WalQuietSaid : Prop := walQuietRow.holds Try.pinned (OpenSpec.ofChange walQuietSpec)

/-- ITS FALSE NEIGHBOUR: 'it returns false'. Refute it at one input. -/
def walQuietWrong : ChangeSpec := { name := "walQuiet", fn := fun _ => fun
  | [d1, d2, d3, d4, d5] => { results := [.lit (.bool false)], args := [d1, d2, d3, d4, d5] }
  | _ => none }
def WalQuietWrongFalsely : Prop := walQuietRow.holds Try.pinned (OpenSpec.ofChange walQuietWrong)

/-- 'aqulaw15.WalAtomic': WHATEVER THE INPUT: true; the input reads as it did. -/
def walAtomicSpec : ChangeSpec := { name := "walAtomic", fn := fun _ => fun
  | [d1, d2, d3, d4, d5, d6, d7, d8] => { results := [.lit (.bool true)], args := [d1, d2, d3, d4, d5, d6, d7, d8] }
  | _ => none }
def walAtomicRow : OpenClaim := { program := "ytdoanopeejeeiaa", sum := "1a9261cb6f10ca612f25b1e47c8d2b37027e446c2dc3f2ef4004db053bed50c1", func := "aquatint/aqulaw15.WalAtomic", spec := "walAtomic", inPlace := ["internal/bytealg.MakeNoZero", "maps.clone"], unfollowed := true, recurses := true, apart := false }
def WalAtomicSaid : Prop := walAtomicRow.holds Try.pinned (OpenSpec.ofChange walAtomicSpec)

/-- ITS FALSE NEIGHBOUR: 'it returns false'. Refute it at one input. -/
def walAtomicWrong : ChangeSpec := { name := "walAtomic", fn := fun _ => fun
  | [d1, d2, d3, d4, d5, d6, d7, d8] => { results := [.lit (.bool false)], args := [d1, d2, d3, d4, d5, d6, d7, d8] }
  | _ => none }
def WalAtomicWrongFalsely : Prop := walAtomicRow.holds Try.pinned (OpenSpec.ofChange walAtomicWrong)

/- THE SECOND FORM. 'bulk': how many values and letters a reading holds, each counted each time it is reached (what is shared counts as often as it is met; a slice's spare places count too). A statement '..UptoSaid' is the law's where the arguments, and the package variables that the reading takes, are together of bulk at most 1048576: NARROWER than '..Said'. Prove '..Said' where nothing that the law and all that it calls make is longer than what came in: it says more and counts as full. Else prove '..UptoSaid'. A law counts once. -/
mutual
def uptoBulk {H : Type} : DataW H → Nat
  | .lit (.string bytes) => bytes.length + 1
  | .lit _ => 1
  | .nil => 1
  | .ptr d => uptoBulk d + 1
  | .slice elems spare => uptoBulkAll elems + uptoBulkAll spare + 1
  | .agg parts => uptoBulkAll parts + 1
  | .iface _ d => uptoBulk d + 1
  | .map entries => uptoBulkEntries entries + 1
  | .held _ => 1
def uptoBulkAll {H : Type} : List (DataW H) → Nat
  | [] => 0
  | d :: r => uptoBulk d + uptoBulkAll r
def uptoBulkEntries {H : Type} : List (Lit × DataW H) → Nat
  | [] => 0
  | x :: r => uptoBulkEntry x + uptoBulkEntries r
def uptoBulkEntry {H : Type} : Lit × DataW H → Nat
  | (.string bytes, d) => bytes.length + uptoBulk d + 1
  | (_, d) => uptoBulk d + 1
 end
def uptoSmall : (H : Type) → List (DataW H) → Bool := fun _ ds => decide (uptoBulkAll ds ≤ 1048576)
def OpenSpec.upto (s : _root_.Go.ChangeSpec) : _root_.Go.OpenSpec := { _root_.Go.OpenSpec.ofChange s with cond := some uptoSmall }

/-- 'aqulaw15.WalRings', WHERE WHAT IT READS IS OF BULK AT MOST 1048576: true; the input reads as it did. -/
def walRingsUptoRow : OpenClaim := { program := "ytdoanopeejeeiaa", sum := "1a9261cb6f10ca612f25b1e47c8d2b37027e446c2dc3f2ef4004db053bed50c1", func := "aquatint/aqulaw15.WalRings", spec := "walRings", inPlace := ["internal/bytealg.MakeNoZero", "maps.clone"], unfollowed := true, recurses := true, apart := false, narrowed := true }
def WalRingsUptoSaid : Prop := walRingsUptoRow.holds Try.pinned (OpenSpec.upto walRingsSpec)

/-- 'aqulaw15.WalQuiet', WHERE WHAT IT READS IS OF BULK AT MOST 1048576: true; the input reads as it did. -/
def walQuietUptoRow : OpenClaim := { program := "ytdoanopeejeeiaa", sum := "1a9261cb6f10ca612f25b1e47c8d2b37027e446c2dc3f2ef4004db053bed50c1", func := "aquatint/aqulaw15.WalQuiet", spec := "walQuiet", inPlace := ["internal/bytealg.MakeNoZero", "maps.clone"], unfollowed := true, recurses := true, apart := false, narrowed := true }
def WalQuietUptoSaid : Prop := walQuietUptoRow.holds Try.pinned (OpenSpec.upto walQuietSpec)

/-- 'aqulaw15.WalAtomic', WHERE WHAT IT READS IS OF BULK AT MOST 1048576: true; the input reads as it did. -/
def walAtomicUptoRow : OpenClaim := { program := "ytdoanopeejeeiaa", sum := "1a9261cb6f10ca612f25b1e47c8d2b37027e446c2dc3f2ef4004db053bed50c1", func := "aquatint/aqulaw15.WalAtomic", spec := "walAtomic", inPlace := ["internal/bytealg.MakeNoZero", "maps.clone"], unfollowed := true, recurses := true, apart := false, narrowed := true }
def WalAtomicUptoSaid : Prop := walAtomicUptoRow.holds Try.pinned (OpenSpec.upto walAtomicSpec)

end Rows
end Go.Proofs.Ytdoanopeejeeiaa
