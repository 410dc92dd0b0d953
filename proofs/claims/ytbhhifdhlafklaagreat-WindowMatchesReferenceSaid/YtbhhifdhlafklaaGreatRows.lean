/-
  No cell of these rows narrows 'for every input' (looked for: loops, veiled, ifaces, maps, wideKeys, modest, calm, conditions, laid).
  DERIVED. THE GIVEN ROWS OF THIS SEAT. 2 by the template 'for every input the law returns true; each argument reads behind the call as it read before'; 0 by the template 'total and deterministic' (their statements: YtbhhifdhlafklaaGreatTotals.lean).
  GIVEN WITH THE SEED: the statements are not yours to turn. If you find one false, say at which input.
  Laid BY PROGRAM, IN A SANDBOX (cutbox-rows.mjs): the forced cells as the released guide's own fill.sh prints them over the translation bdddea0bb9f81013… (all of the seat's roots in one cut). By AI agents, Wed Nov 11 2026. No macro, syntax, notation, axiom, sorry.
-/
import Derived.Test.YtbhhifdhlafklaaGreatChecked
import GoSem.Claim
import GoSem.ClaimJoined
import GoSem.ClaimMapViews
import Derived.JoinedTies
import Derived.KernelRfl
namespace Go.Proofs.YtbhhifdhlafklaaGreat
/- THE CELL 'sum', in the pinned program and in every row, IS THE sha256 OF THE DUMP (.gsa) THAT YtbhhifdhlafklaaGreatProg.lean LOADS. Nothing in Lean hashes anything: it is a label: what it is worth is what the hold of that sum in a sandbox is worth. -/
noncomputable def Tryz.pinned : Pinned := { name := "ytbhhifdhlafklaagreat", sum := "bdddea0bb9f81013559f970516ff8689f8c781031295c234621e5d8f2a882e24", checked := Tryz.checked }
namespace Rows
def none {H : Type} : Left H := { results := [], args := [] }

/-- 'ropeladderlaw23.WindowMatchesReference': WHATEVER THE INPUT: true; the input reads as it did. -/
def windowMatchesReferenceSpec : ChangeSpec := { name := "windowMatchesReference", fn := fun _ => fun
  | [d1, d2, d3, d4] => { results := [.lit (.bool true)], args := [d1, d2, d3, d4] }
  | _ => none }
def windowMatchesReferenceRow : OpenClaim := { program := "ytbhhifdhlafklaagreat", sum := "bdddea0bb9f81013559f970516ff8689f8c781031295c234621e5d8f2a882e24", func := "ropeladder/ropeladderlaw23.WindowMatchesReference", spec := "windowMatchesReference", inPlace := ["slices.overlaps[ropeladder/api.SimEvent]"], unfollowed := true, recurses := true, apart := false }
def WindowMatchesReferenceSaid : Prop := windowMatchesReferenceRow.holds Tryz.pinned (OpenSpec.ofChange windowMatchesReferenceSpec)

/-- ITS FALSE NEIGHBOUR: 'it returns false'. Refute it at one input. -/
def windowMatchesReferenceWrong : ChangeSpec := { name := "windowMatchesReference", fn := fun _ => fun
  | [d1, d2, d3, d4] => { results := [.lit (.bool false)], args := [d1, d2, d3, d4] }
  | _ => none }
def WindowMatchesReferenceWrongFalsely : Prop := windowMatchesReferenceRow.holds Tryz.pinned (OpenSpec.ofChange windowMatchesReferenceWrong)

/-- 'ropeladderlaw23.WindowOrder': WHATEVER THE INPUT: true; the input reads as it did. -/
def windowOrderSpec : ChangeSpec := { name := "windowOrder", fn := fun _ => fun
  | [d1, d2, d3] => { results := [.lit (.bool true)], args := [d1, d2, d3] }
  | _ => none }
def windowOrderRow : OpenClaim := { program := "ytbhhifdhlafklaagreat", sum := "bdddea0bb9f81013559f970516ff8689f8c781031295c234621e5d8f2a882e24", func := "ropeladder/ropeladderlaw23.WindowOrder", spec := "windowOrder", inPlace := ["slices.overlaps[ropeladder/api.SimEvent]"], unfollowed := true, recurses := true, apart := false }
def WindowOrderSaid : Prop := windowOrderRow.holds Tryz.pinned (OpenSpec.ofChange windowOrderSpec)

/-- ITS FALSE NEIGHBOUR: 'it returns false'. Refute it at one input. -/
def windowOrderWrong : ChangeSpec := { name := "windowOrder", fn := fun _ => fun
  | [d1, d2, d3] => { results := [.lit (.bool false)], args := [d1, d2, d3] }
  | _ => none }
def WindowOrderWrongFalsely : Prop := windowOrderRow.holds Tryz.pinned (OpenSpec.ofChange windowOrderWrong)

/- THE SECOND FORM. 'bulk': how many values and letters a reading holds, each counted each time it is reached (what is shared counts as often as it is met; a slice's spare places count too). A statement '..UptoSaid' is the law's where the arguments, and the package variables that the reading takes, are together of bulk at most 1048576: NARROWER than '..Said'. Prove '..Said' where nothing that the law and all that it calls make is longer than what came in: it says more and counts as full. Else prove '..UptoSaid'. A law counts once. -/
mutual
def uptoBulk {H : Type} : DataW H → Nat
  | .lit (.string bytes) => bytes.length + 1
  | .lit _ => 1
  | .nil => 1
  | .ptr d => uptoBulk d + 1
  | .slice elems spare => uptoBulkAll elems + uptoBulkAll spare + 1
  | .agg parts => uptoBulkAll parts + 1
  | .iface _ d => uptoBulk d + 1
  | .map entries => uptoBulkEntries entries + 1
  | .held _ => 1
def uptoBulkAll {H : Type} : List (DataW H) → Nat
  | [] => 0
  | d :: r => uptoBulk d + uptoBulkAll r
def uptoBulkEntries {H : Type} : List (Lit × DataW H) → Nat
  | [] => 0
  | x :: r => uptoBulkEntry x + uptoBulkEntries r
def uptoBulkEntry {H : Type} : Lit × DataW H → Nat
  | (.string bytes, d) => bytes.length + uptoBulk d + 1
  | (_, d) => uptoBulk d + 1
 end
def uptoSmall : (H : Type) → List (DataW H) → Bool := fun _ ds => decide (uptoBulkAll ds ≤ 1048576)
def OpenSpec.upto (s : _root_.Go.ChangeSpec) : _root_.Go.OpenSpec := { _root_.Go.OpenSpec.ofChange s with cond := some uptoSmall }

/-- 'ropeladderlaw23.WindowMatchesReference', WHERE WHAT IT READS IS OF BULK AT MOST 1048576: true; the input reads as it did. -/
def windowMatchesReferenceUptoRow : OpenClaim := { program := "ytbhhifdhlafklaagreat", sum := "bdddea0bb9f81013559f970516ff8689f8c781031295c234621e5d8f2a882e24", func := "ropeladder/ropeladderlaw23.WindowMatchesReference", spec := "windowMatchesReference", inPlace := ["slices.overlaps[ropeladder/api.SimEvent]"], unfollowed := true, recurses := true, apart := false, narrowed := true }
def WindowMatchesReferenceUptoSaid : Prop := windowMatchesReferenceUptoRow.holds Tryz.pinned (OpenSpec.upto windowMatchesReferenceSpec)

/-- 'ropeladderlaw23.WindowOrder', WHERE WHAT IT READS IS OF BULK AT MOST 1048576: true; the input reads as it did. -/
def windowOrderUptoRow : OpenClaim := { program := "ytbhhifdhlafklaagreat", sum := "bdddea0bb9f81013559f970516ff8689f8c781031295c234621e5d8f2a882e24", func := "ropeladder/ropeladderlaw23.WindowOrder", spec := "windowOrder", inPlace := ["slices.overlaps[ropeladder/api.SimEvent]"], unfollowed := true, recurses := true, apart := false, narrowed := true }
def WindowOrderUptoSaid : Prop := windowOrderUptoRow.holds Tryz.pinned (OpenSpec.upto windowOrderSpec)

end Rows
end Go.Proofs.YtbhhifdhlafklaaGreat
