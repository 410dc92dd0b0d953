/-
  No cell of these rows narrows 'for every input' (looked for: loops, veiled, ifaces, maps, wideKeys, modest, calm, conditions, laid).
  DERIVED. THE GIVEN ROWS OF THIS SEAT. 3 by the template 'for every input the law returns true; each argument reads behind the call as it read before'; 0 by the template 'total and deterministic' (their statements: YtbhhifdhlafklaaTotals.lean).
  GIVEN WITH THE SEED: the statements are not yours to turn. If you find one false, say at which input.
  Laid BY PROGRAM, IN A SANDBOX (cutbox-rows.mjs): the forced cells as the released guide's own fill.sh prints them over the translation ab6bd6e47f193d7e… (all of the seat's roots in one cut). By AI agents, Wed Nov 11 2026. No macro, syntax, notation, axiom, sorry.
-/
import Derived.Test.YtbhhifdhlafklaaChecked
import GoSem.Claim
import GoSem.ClaimJoined
import GoSem.ClaimMapViews
import Derived.JoinedTies
import Derived.KernelRfl
namespace Go.Proofs.Ytbhhifdhlafklaa
/- THE CELL 'sum', in the pinned program and in every row, IS THE sha256 OF THE DUMP (.gsa) THAT YtbhhifdhlafklaaProg.lean LOADS. Nothing in Lean hashes anything: it is a label: what it is worth is what the hold of that sum in a sandbox is worth. -/
noncomputable def Try.pinned : Pinned := { name := "ytbhhifdhlafklaa", sum := "ab6bd6e47f193d7e40baa9f834ba7fa95c3b6819da9dd4062a9744ce3bf68668", checked := Try.checked }
namespace Rows
def none {H : Type} : Left H := { results := [], args := [] }

/-- 'ropeladderlaw23.WindowSafe': WHATEVER THE INPUT: true; the input reads as it did. -/
def windowSafeSpec : ChangeSpec := { name := "windowSafe", fn := fun _ => fun
  | [d1, d2, d3] => { results := [.lit (.bool true)], args := [d1, d2, d3] }
  | _ => none }
def windowSafeRow : OpenClaim := { program := "ytbhhifdhlafklaa", sum := "ab6bd6e47f193d7e40baa9f834ba7fa95c3b6819da9dd4062a9744ce3bf68668", func := "ropeladder/ropeladderlaw23.WindowSafe", spec := "windowSafe", inPlace := ["slices.overlaps[ropeladder/api.SimEvent]"], unfollowed := true, recurses := true, apart := false }
def WindowSafeSaid : Prop := windowSafeRow.holds Try.pinned (OpenSpec.ofChange windowSafeSpec)

/-- ITS FALSE NEIGHBOUR: 'it returns false'. Refute it at one input. -/
def windowSafeWrong : ChangeSpec := { name := "windowSafe", fn := fun _ => fun
  | [d1, d2, d3] => { results := [.lit (.bool false)], args := [d1, d2, d3] }
  | _ => none }
def WindowSafeWrongFalsely : Prop := windowSafeRow.holds Try.pinned (OpenSpec.ofChange windowSafeWrong)

/-- 'ropeladderlaw23.WindowProgress': WHATEVER THE INPUT: true; the input reads as it did. -/
def windowProgressSpec : ChangeSpec := { name := "windowProgress", fn := fun _ => fun
  | [d1, d2] => { results := [.lit (.bool true)], args := [d1, d2] }
  | _ => none }
def windowProgressRow : OpenClaim := { program := "ytbhhifdhlafklaa", sum := "ab6bd6e47f193d7e40baa9f834ba7fa95c3b6819da9dd4062a9744ce3bf68668", func := "ropeladder/ropeladderlaw23.WindowProgress", spec := "windowProgress", inPlace := ["slices.overlaps[ropeladder/api.SimEvent]"], unfollowed := true, recurses := true, apart := false }
def WindowProgressSaid : Prop := windowProgressRow.holds Try.pinned (OpenSpec.ofChange windowProgressSpec)

/-- ITS FALSE NEIGHBOUR: 'it returns false'. Refute it at one input. -/
def windowProgressWrong : ChangeSpec := { name := "windowProgress", fn := fun _ => fun
  | [d1, d2] => { results := [.lit (.bool false)], args := [d1, d2] }
  | _ => none }
def WindowProgressWrongFalsely : Prop := windowProgressRow.holds Try.pinned (OpenSpec.ofChange windowProgressWrong)

/-- 'ropeladderlaw23.WindowSplit': WHATEVER THE INPUT: true; the input reads as it did. -/
def windowSplitSpec : ChangeSpec := { name := "windowSplit", fn := fun _ => fun
  | [d1, d2, d3, d4] => { results := [.lit (.bool true)], args := [d1, d2, d3, d4] }
  | _ => none }
def windowSplitRow : OpenClaim := { program := "ytbhhifdhlafklaa", sum := "ab6bd6e47f193d7e40baa9f834ba7fa95c3b6819da9dd4062a9744ce3bf68668", func := "ropeladder/ropeladderlaw23.WindowSplit", spec := "windowSplit", inPlace := ["slices.overlaps[ropeladder/api.SimEvent]"], unfollowed := true, recurses := true, apart := false }
def WindowSplitSaid : Prop := windowSplitRow.holds Try.pinned (OpenSpec.ofChange windowSplitSpec)

/-- ITS FALSE NEIGHBOUR: 'it returns false'. Refute it at one input. -/
def windowSplitWrong : ChangeSpec := { name := "windowSplit", fn := fun _ => fun
  | [d1, d2, d3, d4] => { results := [.lit (.bool false)], args := [d1, d2, d3, d4] }
  | _ => none }
def WindowSplitWrongFalsely : Prop := windowSplitRow.holds Try.pinned (OpenSpec.ofChange windowSplitWrong)

/- THE SECOND FORM. 'bulk': how many values and letters a reading holds, each counted each time it is reached (what is shared counts as often as it is met; a slice's spare places count too). A statement '..UptoSaid' is the law's where the arguments, and the package variables that the reading takes, are together of bulk at most 1048576: NARROWER than '..Said'. Prove '..Said' where nothing that the law and all that it calls make is longer than what came in: it says more and counts as full. Else prove '..UptoSaid'. A law counts once. -/
mutual
def uptoBulk {H : Type} : DataW H → Nat
  | .lit (.string bytes) => bytes.length + 1
  | .lit _ => 1
  | .nil => 1
  | .ptr d => uptoBulk d + 1
  | .slice elems spare => uptoBulkAll elems + uptoBulkAll spare + 1
  | .agg parts => uptoBulkAll parts + 1
  | .iface _ d => uptoBulk d + 1
  | .map entries => uptoBulkEntries entries + 1
  | .held _ => 1
def uptoBulkAll {H : Type} : List (DataW H) → Nat
  | [] => 0
  | d :: r => uptoBulk d + uptoBulkAll r
def uptoBulkEntries {H : Type} : List (Lit × DataW H) → Nat
  | [] => 0
  | x :: r => uptoBulkEntry x + uptoBulkEntries r
def uptoBulkEntry {H : Type} : Lit × DataW H → Nat
  | (.string bytes, d) => bytes.length + uptoBulk d + 1
  | (_, d) => uptoBulk d + 1
 end
def uptoSmall : (H : Type) → List (DataW H) → Bool := fun _ ds => decide (uptoBulkAll ds ≤ 1048576)
def OpenSpec.upto (s : _root_.Go.ChangeSpec) : _root_.Go.OpenSpec := { _root_.Go.OpenSpec.ofChange s with cond := some uptoSmall }

/-- 'ropeladderlaw23.WindowSafe', WHERE WHAT IT READS IS OF BULK AT MOST 1048576: true; the input reads as it did. -/
def windowSafeUptoRow : OpenClaim := { program := "ytbhhifdhlafklaa", sum := "ab6bd6e47f193d7e40baa9f834ba7fa95c3b6819da9dd4062a9744ce3bf68668", func := "ropeladder/ropeladderlaw23.WindowSafe", spec := "windowSafe", inPlace := ["slices.overlaps[ropeladder/api.SimEvent]"], unfollowed := true, recurses := true, apart := false, narrowed := true }
def WindowSafeUptoSaid : Prop := windowSafeUptoRow.holds Try.pinned (OpenSpec.upto windowSafeSpec)

/-- 'ropeladderlaw23.WindowProgress', WHERE WHAT IT READS IS OF BULK AT MOST 1048576: true; the input reads as it did. -/
def windowProgressUptoRow : OpenClaim := { program := "ytbhhifdhlafklaa", sum := "ab6bd6e47f193d7e40baa9f834ba7fa95c3b6819da9dd4062a9744ce3bf68668", func := "ropeladder/ropeladderlaw23.WindowProgress", spec := "windowProgress", inPlace := ["slices.overlaps[ropeladder/api.SimEvent]"], unfollowed := true, recurses := true, apart := false, narrowed := true }
def WindowProgressUptoSaid : Prop := windowProgressUptoRow.holds Try.pinned (OpenSpec.upto windowProgressSpec)

/-- 'ropeladderlaw23.WindowSplit', WHERE WHAT IT READS IS OF BULK AT MOST 1048576: true; the input reads as it did. -/
def windowSplitUptoRow : OpenClaim := { program := "ytbhhifdhlafklaa", sum := "ab6bd6e47f193d7e40baa9f834ba7fa95c3b6819da9dd4062a9744ce3bf68668", func := "ropeladder/ropeladderlaw23.WindowSplit", spec := "windowSplit", inPlace := ["slices.overlaps[ropeladder/api.SimEvent]"], unfollowed := true, recurses := true, apart := false, narrowed := true }
def WindowSplitUptoSaid : Prop := windowSplitUptoRow.holds Try.pinned (OpenSpec.upto windowSplitSpec)

end Rows
end Go.Proofs.Ytbhhifdhlafklaa
