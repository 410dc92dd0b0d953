/-
  No cell of these rows narrows 'for every input' (looked for: loops, veiled, ifaces, maps, wideKeys, modest, calm, conditions, laid).
  DERIVED. THE GIVEN ROWS OF THIS SEAT. 3 by the template 'for every input the law returns true; each argument reads behind the call as it read before'; 0 by the template 'total and deterministic' (their statements: YtbkabnhkclbepaaTotals.lean).
  GIVEN WITH THE SEED: the statements are not yours to turn. If you find one false, say at which input.
  Laid BY PROGRAM, IN A SANDBOX (cutbox-rows.mjs): the forced cells as the released guide's own fill.sh prints them over the translation c6b20d053ed84f96… (all of the seat's roots in one cut). By AI agents, Wed Nov 11 2026. No macro, syntax, notation, axiom, sorry.
-/
import Derived.Test.YtbkabnhkclbepaaChecked
import GoSem.Claim
import GoSem.ClaimJoined
import GoSem.ClaimMapViews
import Derived.JoinedTies
import Derived.KernelRfl
namespace Go.Proofs.Ytbkabnhkclbepaa
/- THE CELL 'sum', in the pinned program and in every row, IS THE sha256 OF THE DUMP (.gsa) THAT YtbkabnhkclbepaaProg.lean LOADS. Nothing in Lean hashes anything: it is a label: what it is worth is what the hold of that sum in a sandbox is worth. -/
noncomputable def Try.pinned : Pinned := { name := "ytbkabnhkclbepaa", sum := "c6b20d053ed84f96082f91e5e1ec3ee3aeafa1614061c840ea40842ab8b845fb", checked := Try.checked }
namespace Rows
def none {H : Type} : Left H := { results := [], args := [] }

/-- 'ropeladderlaw18.ProgramClosed': WHATEVER THE INPUT: true; the input reads as it did. -/
def programClosedSpec : ChangeSpec := { name := "programClosed", fn := fun _ => fun
  | [d] => { results := [.lit (.bool true)], args := [d] }
  | _ => none }
def programClosedRow : OpenClaim := { program := "ytbkabnhkclbepaa", sum := "c6b20d053ed84f96082f91e5e1ec3ee3aeafa1614061c840ea40842ab8b845fb", func := "ropeladder/ropeladderlaw18.ProgramClosed", spec := "programClosed", unfollowed := true, recurses := true, apart := false }
def ProgramClosedSaid : Prop := programClosedRow.holds Try.pinned (OpenSpec.ofChange programClosedSpec)

/-- ITS FALSE NEIGHBOUR: 'it returns false'. Refute it at one input. -/
def programClosedWrong : ChangeSpec := { name := "programClosed", fn := fun _ => fun
  | [d] => { results := [.lit (.bool false)], args := [d] }
  | _ => none }
def ProgramClosedWrongFalsely : Prop := programClosedRow.holds Try.pinned (OpenSpec.ofChange programClosedWrong)

/-- 'ropeladderlaw18.ProgramBounds': WHATEVER THE INPUT: true; the input reads as it did. -/
def programBoundsSpec : ChangeSpec := { name := "programBounds", fn := fun _ => fun
  | [d1, d2, d3, d4, d5] => { results := [.lit (.bool true)], args := [d1, d2, d3, d4, d5] }
  | _ => none }
def programBoundsRow : OpenClaim := { program := "ytbkabnhkclbepaa", sum := "c6b20d053ed84f96082f91e5e1ec3ee3aeafa1614061c840ea40842ab8b845fb", func := "ropeladder/ropeladderlaw18.ProgramBounds", spec := "programBounds", unfollowed := true, recurses := true, apart := false }
def ProgramBoundsSaid : Prop := programBoundsRow.holds Try.pinned (OpenSpec.ofChange programBoundsSpec)

/-- ITS FALSE NEIGHBOUR: 'it returns false'. Refute it at one input. -/
def programBoundsWrong : ChangeSpec := { name := "programBounds", fn := fun _ => fun
  | [d1, d2, d3, d4, d5] => { results := [.lit (.bool false)], args := [d1, d2, d3, d4, d5] }
  | _ => none }
def ProgramBoundsWrongFalsely : Prop := programBoundsRow.holds Try.pinned (OpenSpec.ofChange programBoundsWrong)

/-- 'ropeladderlaw18.ProgramSends': WHATEVER THE INPUT: true; the input reads as it did. -/
def programSendsSpec : ChangeSpec := { name := "programSends", fn := fun _ => fun
  | [d] => { results := [.lit (.bool true)], args := [d] }
  | _ => none }
def programSendsRow : OpenClaim := { program := "ytbkabnhkclbepaa", sum := "c6b20d053ed84f96082f91e5e1ec3ee3aeafa1614061c840ea40842ab8b845fb", func := "ropeladder/ropeladderlaw18.ProgramSends", spec := "programSends", unfollowed := true, recurses := true, apart := false }
def ProgramSendsSaid : Prop := programSendsRow.holds Try.pinned (OpenSpec.ofChange programSendsSpec)

/-- ITS FALSE NEIGHBOUR: 'it returns false'. Refute it at one input. -/
def programSendsWrong : ChangeSpec := { name := "programSends", fn := fun _ => fun
  | [d] => { results := [.lit (.bool false)], args := [d] }
  | _ => none }
def ProgramSendsWrongFalsely : Prop := programSendsRow.holds Try.pinned (OpenSpec.ofChange programSendsWrong)

/- THE SECOND FORM. 'bulk': how many values and letters a reading holds, each counted each time it is reached (what is shared counts as often as it is met; a slice's spare places count too). A statement '..UptoSaid' is the law's where the arguments, and the package variables that the reading takes, are together of bulk at most 1048576: NARROWER than '..Said'. Prove '..Said' where nothing that the law and all that it calls make is longer than what came in: it says more and counts as full. Else prove '..UptoSaid'. A law counts once. -/
mutual
def uptoBulk {H : Type} : DataW H → Nat
  | .lit (.string bytes) => bytes.length + 1
  | .lit _ => 1
  | .nil => 1
  | .ptr d => uptoBulk d + 1
  | .slice elems spare => uptoBulkAll elems + uptoBulkAll spare + 1
  | .agg parts => uptoBulkAll parts + 1
  | .iface _ d => uptoBulk d + 1
  | .map entries => uptoBulkEntries entries + 1
  | .held _ => 1
def uptoBulkAll {H : Type} : List (DataW H) → Nat
  | [] => 0
  | d :: r => uptoBulk d + uptoBulkAll r
def uptoBulkEntries {H : Type} : List (Lit × DataW H) → Nat
  | [] => 0
  | x :: r => uptoBulkEntry x + uptoBulkEntries r
def uptoBulkEntry {H : Type} : Lit × DataW H → Nat
  | (.string bytes, d) => bytes.length + uptoBulk d + 1
  | (_, d) => uptoBulk d + 1
 end
def uptoSmall : (H : Type) → List (DataW H) → Bool := fun _ ds => decide (uptoBulkAll ds ≤ 1048576)
def OpenSpec.upto (s : _root_.Go.ChangeSpec) : _root_.Go.OpenSpec := { _root_.Go.OpenSpec.ofChange s with cond := some uptoSmall }

/-- 'ropeladderlaw18.ProgramClosed', WHERE WHAT IT READS IS OF BULK AT MOST 1048576: true; the input reads as it did. -/
def programClosedUptoRow : OpenClaim := { program := "ytbkabnhkclbepaa", sum := "c6b20d053ed84f96082f91e5e1ec3ee3aeafa1614061c840ea40842ab8b845fb", func := "ropeladder/ropeladderlaw18.ProgramClosed", spec := "programClosed", unfollowed := true, recurses := true, apart := false, narrowed := true }
def ProgramClosedUptoSaid : Prop := programClosedUptoRow.holds Try.pinned (OpenSpec.upto programClosedSpec)

/-- 'ropeladderlaw18.ProgramBounds', WHERE WHAT IT READS IS OF BULK AT MOST 1048576: true; the input reads as it did. -/
def programBoundsUptoRow : OpenClaim := { program := "ytbkabnhkclbepaa", sum := "c6b20d053ed84f96082f91e5e1ec3ee3aeafa1614061c840ea40842ab8b845fb", func := "ropeladder/ropeladderlaw18.ProgramBounds", spec := "programBounds", unfollowed := true, recurses := true, apart := false, narrowed := true }
def ProgramBoundsUptoSaid : Prop := programBoundsUptoRow.holds Try.pinned (OpenSpec.upto programBoundsSpec)

/-- 'ropeladderlaw18.ProgramSends', WHERE WHAT IT READS IS OF BULK AT MOST 1048576: true; the input reads as it did. -/
def programSendsUptoRow : OpenClaim := { program := "ytbkabnhkclbepaa", sum := "c6b20d053ed84f96082f91e5e1ec3ee3aeafa1614061c840ea40842ab8b845fb", func := "ropeladder/ropeladderlaw18.ProgramSends", spec := "programSends", unfollowed := true, recurses := true, apart := false, narrowed := true }
def ProgramSendsUptoSaid : Prop := programSendsUptoRow.holds Try.pinned (OpenSpec.upto programSendsSpec)

end Rows
end Go.Proofs.Ytbkabnhkclbepaa
