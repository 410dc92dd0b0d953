/-
  No cell of these rows narrows 'for every input' (looked for: loops, veiled, ifaces, maps, wideKeys, modest, calm, conditions, laid).
  DERIVED. THE GIVEN ROWS OF THIS SEAT. 6 by the template 'for every input the law returns true; each argument reads behind the call as it read before'; 0 by the template 'total and deterministic' (their statements: YtpgdfkciinankaaGreatTotals.lean).
  GIVEN WITH THE SEED: the statements are not yours to turn. If you find one false, say at which input.
  Laid BY PROGRAM, IN A SANDBOX (cutbox-rows.mjs): the forced cells as the released guide's own fill.sh prints them over the translation 5217620fbab9a091… (all of the seat's roots in one cut). By AI agents, Wed Nov 11 2026. No macro, syntax, notation, axiom, sorry.
-/
import Derived.Test.YtpgdfkciinankaaGreatChecked
import GoSem.Claim
import GoSem.ClaimJoined
import GoSem.ClaimMapViews
import Derived.JoinedTies
import Derived.KernelRfl
namespace Go.Proofs.YtpgdfkciinankaaGreat
/- THE CELL 'sum', in the pinned program and in every row, IS THE sha256 OF THE DUMP (.gsa) THAT YtpgdfkciinankaaGreatProg.lean LOADS. Nothing in Lean hashes anything: it is a label: what it is worth is what the hold of that sum in a sandbox is worth. -/
noncomputable def Tryz.pinned : Pinned := { name := "ytpgdfkciinankaagreat", sum := "5217620fbab9a091611b0dc7326833e87fe4880552d2fdce961c2e294a9a79ce", checked := Tryz.checked }
namespace Rows
def none {H : Type} : Left H := { results := [], args := [] }

/-- 'ropeladderlaw25.ParsimMatchesReference': WHATEVER THE INPUT: true; the input reads as it did. -/
def parsimMatchesReferenceSpec : ChangeSpec := { name := "parsimMatchesReference", fn := fun _ => fun
  | [d1, d2, d3, d4] => { results := [.lit (.bool true)], args := [d1, d2, d3, d4] }
  | _ => none }
def parsimMatchesReferenceRow : OpenClaim := { program := "ytpgdfkciinankaagreat", sum := "5217620fbab9a091611b0dc7326833e87fe4880552d2fdce961c2e294a9a79ce", func := "ropeladder/ropeladderlaw25.ParsimMatchesReference", spec := "parsimMatchesReference", inPlace := ["slices.overlaps[ropeladder/api.SimEvent]"], unfollowed := true, recurses := true, apart := false }
def ParsimMatchesReferenceSaid : Prop := parsimMatchesReferenceRow.holds Tryz.pinned (OpenSpec.ofChange parsimMatchesReferenceSpec)

/-- ITS FALSE NEIGHBOUR: 'it returns false'. Refute it at one input. -/
def parsimMatchesReferenceWrong : ChangeSpec := { name := "parsimMatchesReference", fn := fun _ => fun
  | [d1, d2, d3, d4] => { results := [.lit (.bool false)], args := [d1, d2, d3, d4] }
  | _ => none }
def ParsimMatchesReferenceWrongFalsely : Prop := parsimMatchesReferenceRow.holds Tryz.pinned (OpenSpec.ofChange parsimMatchesReferenceWrong)

/-- 'ropeladderlaw25.ParsimDeterministic': WHATEVER THE INPUT: true; the input reads as it did. -/
def parsimDeterministicSpec : ChangeSpec := { name := "parsimDeterministic", fn := fun _ => fun
  | [d1, d2, d3, d4, d5, d6] => { results := [.lit (.bool true)], args := [d1, d2, d3, d4, d5, d6] }
  | _ => none }
def parsimDeterministicRow : OpenClaim := { program := "ytpgdfkciinankaagreat", sum := "5217620fbab9a091611b0dc7326833e87fe4880552d2fdce961c2e294a9a79ce", func := "ropeladder/ropeladderlaw25.ParsimDeterministic", spec := "parsimDeterministic", inPlace := ["slices.overlaps[ropeladder/api.SimEvent]"], unfollowed := true, recurses := true, apart := false }
def ParsimDeterministicSaid : Prop := parsimDeterministicRow.holds Tryz.pinned (OpenSpec.ofChange parsimDeterministicSpec)

/-- ITS FALSE NEIGHBOUR: 'it returns false'. Refute it at one input. -/
def parsimDeterministicWrong : ChangeSpec := { name := "parsimDeterministic", fn := fun _ => fun
  | [d1, d2, d3, d4, d5, d6] => { results := [.lit (.bool false)], args := [d1, d2, d3, d4, d5, d6] }
  | _ => none }
def ParsimDeterministicWrongFalsely : Prop := parsimDeterministicRow.holds Tryz.pinned (OpenSpec.ofChange parsimDeterministicWrong)

/-- 'ropeladderlaw25.ParsimPrefix': WHATEVER THE INPUT: true; the input reads as it did. -/
def parsimPrefixSpec : ChangeSpec := { name := "parsimPrefix", fn := fun _ => fun
  | [d1, d2, d3, d4, d5] => { results := [.lit (.bool true)], args := [d1, d2, d3, d4, d5] }
  | _ => none }
def parsimPrefixRow : OpenClaim := { program := "ytpgdfkciinankaagreat", sum := "5217620fbab9a091611b0dc7326833e87fe4880552d2fdce961c2e294a9a79ce", func := "ropeladder/ropeladderlaw25.ParsimPrefix", spec := "parsimPrefix", inPlace := ["slices.overlaps[ropeladder/api.SimEvent]"], unfollowed := true, recurses := true, apart := false }
def ParsimPrefixSaid : Prop := parsimPrefixRow.holds Tryz.pinned (OpenSpec.ofChange parsimPrefixSpec)

/-- ITS FALSE NEIGHBOUR: 'it returns false'. Refute it at one input. -/
def parsimPrefixWrong : ChangeSpec := { name := "parsimPrefix", fn := fun _ => fun
  | [d1, d2, d3, d4, d5] => { results := [.lit (.bool false)], args := [d1, d2, d3, d4, d5] }
  | _ => none }
def ParsimPrefixWrongFalsely : Prop := parsimPrefixRow.holds Tryz.pinned (OpenSpec.ofChange parsimPrefixWrong)

/-- 'ropeladderlaw25.ParsimAssigned': WHATEVER THE INPUT: true; the input reads as it did. -/
def parsimAssignedSpec : ChangeSpec := { name := "parsimAssigned", fn := fun _ => fun
  | [d1, d2, d3, d4] => { results := [.lit (.bool true)], args := [d1, d2, d3, d4] }
  | _ => none }
def parsimAssignedRow : OpenClaim := { program := "ytpgdfkciinankaagreat", sum := "5217620fbab9a091611b0dc7326833e87fe4880552d2fdce961c2e294a9a79ce", func := "ropeladder/ropeladderlaw25.ParsimAssigned", spec := "parsimAssigned", inPlace := ["slices.overlaps[ropeladder/api.SimEvent]"], unfollowed := true, recurses := true, apart := false }
def ParsimAssignedSaid : Prop := parsimAssignedRow.holds Tryz.pinned (OpenSpec.ofChange parsimAssignedSpec)

/-- ITS FALSE NEIGHBOUR: 'it returns false'. Refute it at one input. -/
def parsimAssignedWrong : ChangeSpec := { name := "parsimAssigned", fn := fun _ => fun
  | [d1, d2, d3, d4] => { results := [.lit (.bool false)], args := [d1, d2, d3, d4] }
  | _ => none }
def ParsimAssignedWrongFalsely : Prop := parsimAssignedRow.holds Tryz.pinned (OpenSpec.ofChange parsimAssignedWrong)

/-- 'ropeladderlaw25.ParsimProgress': WHATEVER THE INPUT: true; the input reads as it did. -/
def parsimProgressSpec : ChangeSpec := { name := "parsimProgress", fn := fun _ => fun
  | [d1, d2, d3, d4] => { results := [.lit (.bool true)], args := [d1, d2, d3, d4] }
  | _ => none }
def parsimProgressRow : OpenClaim := { program := "ytpgdfkciinankaagreat", sum := "5217620fbab9a091611b0dc7326833e87fe4880552d2fdce961c2e294a9a79ce", func := "ropeladder/ropeladderlaw25.ParsimProgress", spec := "parsimProgress", inPlace := ["slices.overlaps[ropeladder/api.SimEvent]"], unfollowed := true, recurses := true, apart := false }
def ParsimProgressSaid : Prop := parsimProgressRow.holds Tryz.pinned (OpenSpec.ofChange parsimProgressSpec)

/-- ITS FALSE NEIGHBOUR: 'it returns false'. Refute it at one input. -/
def parsimProgressWrong : ChangeSpec := { name := "parsimProgress", fn := fun _ => fun
  | [d1, d2, d3, d4] => { results := [.lit (.bool false)], args := [d1, d2, d3, d4] }
  | _ => none }
def ParsimProgressWrongFalsely : Prop := parsimProgressRow.holds Tryz.pinned (OpenSpec.ofChange parsimProgressWrong)

/-- 'ropeladderlaw25.ParsimEquivalent': WHATEVER THE INPUT: true; the input reads as it did. -/
def parsimEquivalentSpec : ChangeSpec := { name := "parsimEquivalent", fn := fun _ => fun
  | [d1, d2, d3, d4] => { results := [.lit (.bool true)], args := [d1, d2, d3, d4] }
  | _ => none }
def parsimEquivalentRow : OpenClaim := { program := "ytpgdfkciinankaagreat", sum := "5217620fbab9a091611b0dc7326833e87fe4880552d2fdce961c2e294a9a79ce", func := "ropeladder/ropeladderlaw25.ParsimEquivalent", spec := "parsimEquivalent", inPlace := ["slices.overlaps[ropeladder/api.SimEvent]"], unfollowed := true, recurses := true, apart := false }
def ParsimEquivalentSaid : Prop := parsimEquivalentRow.holds Tryz.pinned (OpenSpec.ofChange parsimEquivalentSpec)

/-- ITS FALSE NEIGHBOUR: 'it returns false'. Refute it at one input. -/
def parsimEquivalentWrong : ChangeSpec := { name := "parsimEquivalent", fn := fun _ => fun
  | [d1, d2, d3, d4] => { results := [.lit (.bool false)], args := [d1, d2, d3, d4] }
  | _ => none }
def ParsimEquivalentWrongFalsely : Prop := parsimEquivalentRow.holds Tryz.pinned (OpenSpec.ofChange parsimEquivalentWrong)

/- THE SECOND FORM. 'bulk': how many values and letters a reading holds, each counted each time it is reached (what is shared counts as often as it is met; a slice's spare places count too). A statement '..UptoSaid' is the law's where the arguments, and the package variables that the reading takes, are together of bulk at most 1048576: NARROWER than '..Said'. Prove '..Said' where nothing that the law and all that it calls make is longer than what came in: it says more and counts as full. Else prove '..UptoSaid'. A law counts once. -/
mutual
def uptoBulk {H : Type} : DataW H → Nat
  | .lit (.string bytes) => bytes.length + 1
  | .lit _ => 1
  | .nil => 1
  | .ptr d => uptoBulk d + 1
  | .slice elems spare => uptoBulkAll elems + uptoBulkAll spare + 1
  | .agg parts => uptoBulkAll parts + 1
  | .iface _ d => uptoBulk d + 1
  | .map entries => uptoBulkEntries entries + 1
  | .held _ => 1
def uptoBulkAll {H : Type} : List (DataW H) → Nat
  | [] => 0
  | d :: r => uptoBulk d + uptoBulkAll r
def uptoBulkEntries {H : Type} : List (Lit × DataW H) → Nat
  | [] => 0
  | x :: r => uptoBulkEntry x + uptoBulkEntries r
def uptoBulkEntry {H : Type} : Lit × DataW H → Nat
  | (.string bytes, d) => bytes.length + uptoBulk d + 1
  | (_, d) => uptoBulk d + 1
 end
def uptoSmall : (H : Type) → List (DataW H) → Bool := fun _ ds => decide (uptoBulkAll ds ≤ 1048576)
def OpenSpec.upto (s : _root_.Go.ChangeSpec) : _root_.Go.OpenSpec := { _root_.Go.OpenSpec.ofChange s with cond := some uptoSmall }

/-- 'ropeladderlaw25.ParsimMatchesReference', WHERE WHAT IT READS IS OF BULK AT MOST 1048576: true; the input reads as it did. -/
def parsimMatchesReferenceUptoRow : OpenClaim := { program := "ytpgdfkciinankaagreat", sum := "5217620fbab9a091611b0dc7326833e87fe4880552d2fdce961c2e294a9a79ce", func := "ropeladder/ropeladderlaw25.ParsimMatchesReference", spec := "parsimMatchesReference", inPlace := ["slices.overlaps[ropeladder/api.SimEvent]"], unfollowed := true, recurses := true, apart := false, narrowed := true }
def ParsimMatchesReferenceUptoSaid : Prop := parsimMatchesReferenceUptoRow.holds Tryz.pinned (OpenSpec.upto parsimMatchesReferenceSpec)

/-- 'ropeladderlaw25.ParsimDeterministic', WHERE WHAT IT READS IS OF BULK AT MOST 1048576: true; the input reads as it did. -/
def parsimDeterministicUptoRow : OpenClaim := { program := "ytpgdfkciinankaagreat", sum := "5217620fbab9a091611b0dc7326833e87fe4880552d2fdce961c2e294a9a79ce", func := "ropeladder/ropeladderlaw25.ParsimDeterministic", spec := "parsimDeterministic", inPlace := ["slices.overlaps[ropeladder/api.SimEvent]"], unfollowed := true, recurses := true, apart := false, narrowed := true }
def ParsimDeterministicUptoSaid : Prop := parsimDeterministicUptoRow.holds Tryz.pinned (OpenSpec.upto parsimDeterministicSpec)

/-- 'ropeladderlaw25.ParsimPrefix', WHERE WHAT IT READS IS OF BULK AT MOST 1048576: true; the input reads as it did. -/
def parsimPrefixUptoRow : OpenClaim := { program := "ytpgdfkciinankaagreat", sum := "5217620fbab9a091611b0dc7326833e87fe4880552d2fdce961c2e294a9a79ce", func := "ropeladder/ropeladderlaw25.ParsimPrefix", spec := "parsimPrefix", inPlace := ["slices.overlaps[ropeladder/api.SimEvent]"], unfollowed := true, recurses := true, apart := false, narrowed := true }
def ParsimPrefixUptoSaid : Prop := parsimPrefixUptoRow.holds Tryz.pinned (OpenSpec.upto parsimPrefixSpec)

/-- 'ropeladderlaw25.ParsimAssigned', WHERE WHAT IT READS IS OF BULK AT MOST 1048576: true; the input reads as it did. -/
def parsimAssignedUptoRow : OpenClaim := { program := "ytpgdfkciinankaagreat", sum := "5217620fbab9a091611b0dc7326833e87fe4880552d2fdce961c2e294a9a79ce", func := "ropeladder/ropeladderlaw25.ParsimAssigned", spec := "parsimAssigned", inPlace := ["slices.overlaps[ropeladder/api.SimEvent]"], unfollowed := true, recurses := true, apart := false, narrowed := true }
def ParsimAssignedUptoSaid : Prop := parsimAssignedUptoRow.holds Tryz.pinned (OpenSpec.upto parsimAssignedSpec)

/-- 'ropeladderlaw25.ParsimProgress', WHERE WHAT IT READS IS OF BULK AT MOST 1048576: true; the input reads as it did. -/
def parsimProgressUptoRow : OpenClaim := { program := "ytpgdfkciinankaagreat", sum := "5217620fbab9a091611b0dc7326833e87fe4880552d2fdce961c2e294a9a79ce", func := "ropeladder/ropeladderlaw25.ParsimProgress", spec := "parsimProgress", inPlace := ["slices.overlaps[ropeladder/api.SimEvent]"], unfollowed := true, recurses := true, apart := false, narrowed := true }
def ParsimProgressUptoSaid : Prop := parsimProgressUptoRow.holds Tryz.pinned (OpenSpec.upto parsimProgressSpec)

/-- 'ropeladderlaw25.ParsimEquivalent', WHERE WHAT IT READS IS OF BULK AT MOST 1048576: true; the input reads as it did. -/
def parsimEquivalentUptoRow : OpenClaim := { program := "ytpgdfkciinankaagreat", sum := "5217620fbab9a091611b0dc7326833e87fe4880552d2fdce961c2e294a9a79ce", func := "ropeladder/ropeladderlaw25.ParsimEquivalent", spec := "parsimEquivalent", inPlace := ["slices.overlaps[ropeladder/api.SimEvent]"], unfollowed := true, recurses := true, apart := false, narrowed := true }
def ParsimEquivalentUptoSaid : Prop := parsimEquivalentUptoRow.holds Tryz.pinned (OpenSpec.upto parsimEquivalentSpec)

end Rows
end Go.Proofs.YtpgdfkciinankaaGreat
