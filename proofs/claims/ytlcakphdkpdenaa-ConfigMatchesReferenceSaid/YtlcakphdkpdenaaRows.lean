/-
  No cell of these rows narrows 'for every input' (looked for: loops, veiled, ifaces, maps, wideKeys, modest, calm, conditions, laid).
  DERIVED. THE GIVEN ROWS OF THIS SEAT. 4 by the template 'for every input the law returns true; each argument reads behind the call as it read before'; 0 by the template 'total and deterministic' (their statements: YtlcakphdkpdenaaTotals.lean).
  GIVEN WITH THE SEED: the statements are not yours to turn. If you find one false, say at which input.
  Laid BY PROGRAM, IN A SANDBOX (cutbox-rows.mjs): the forced cells as the released guide's own fill.sh prints them over the translation 95c1edb1ce486822… (all of the seat's roots in one cut). By AI agents, Wed Nov 11 2026. No macro, syntax, notation, axiom, sorry.
-/
import Derived.Test.YtlcakphdkpdenaaChecked
import GoSem.Claim
import GoSem.ClaimJoined
import GoSem.ClaimMapViews
import Derived.JoinedTies
import Derived.KernelRfl
namespace Go.Proofs.Ytlcakphdkpdenaa
/- THE CELL 'sum', in the pinned program and in every row, IS THE sha256 OF THE DUMP (.gsa) THAT YtlcakphdkpdenaaProg.lean LOADS. Nothing in Lean hashes anything: it is a label: what it is worth is what the hold of that sum in a sandbox is worth. -/
noncomputable def Try.pinned : Pinned := { name := "ytlcakphdkpdenaa", sum := "95c1edb1ce486822b2970ab4a2f9c22bcceab43db2cfad4fd413e7d10e4ab8fa", checked := Try.checked }
namespace Rows
def none {H : Type} : Left H := { results := [], args := [] }

/-- 'ropeladderlaw19.ConfigMatchesReference': WHATEVER THE INPUT: true; the input reads as it did. -/
def configMatchesReferenceSpec : ChangeSpec := { name := "configMatchesReference", fn := fun _ => fun
  | [d] => { results := [.lit (.bool true)], args := [d] }
  | _ => none }
def configMatchesReferenceRow : OpenClaim := { program := "ytlcakphdkpdenaa", sum := "95c1edb1ce486822b2970ab4a2f9c22bcceab43db2cfad4fd413e7d10e4ab8fa", func := "ropeladder/ropeladderlaw19.ConfigMatchesReference", spec := "configMatchesReference", unfollowed := true, recurses := true, apart := false }
def ConfigMatchesReferenceSaid : Prop := configMatchesReferenceRow.holds Try.pinned (OpenSpec.ofChange configMatchesReferenceSpec)

/-- ITS FALSE NEIGHBOUR: 'it returns false'. Refute it at one input. -/
def configMatchesReferenceWrong : ChangeSpec := { name := "configMatchesReference", fn := fun _ => fun
  | [d] => { results := [.lit (.bool false)], args := [d] }
  | _ => none }
def ConfigMatchesReferenceWrongFalsely : Prop := configMatchesReferenceRow.holds Try.pinned (OpenSpec.ofChange configMatchesReferenceWrong)

/-- 'ropeladderlaw19.ConfigConsistent': WHATEVER THE INPUT: true; the input reads as it did. -/
def configConsistentSpec : ChangeSpec := { name := "configConsistent", fn := fun _ => fun
  | [d] => { results := [.lit (.bool true)], args := [d] }
  | _ => none }
def configConsistentRow : OpenClaim := { program := "ytlcakphdkpdenaa", sum := "95c1edb1ce486822b2970ab4a2f9c22bcceab43db2cfad4fd413e7d10e4ab8fa", func := "ropeladder/ropeladderlaw19.ConfigConsistent", spec := "configConsistent", unfollowed := true, recurses := true, apart := false }
def ConfigConsistentSaid : Prop := configConsistentRow.holds Try.pinned (OpenSpec.ofChange configConsistentSpec)

/-- ITS FALSE NEIGHBOUR: 'it returns false'. Refute it at one input. -/
def configConsistentWrong : ChangeSpec := { name := "configConsistent", fn := fun _ => fun
  | [d] => { results := [.lit (.bool false)], args := [d] }
  | _ => none }
def ConfigConsistentWrongFalsely : Prop := configConsistentRow.holds Try.pinned (OpenSpec.ofChange configConsistentWrong)

/-- 'ropeladderlaw19.ConfigMonotone': WHATEVER THE INPUT: true; the input reads as it did. -/
def configMonotoneSpec : ChangeSpec := { name := "configMonotone", fn := fun _ => fun
  | [d1, d2, d3] => { results := [.lit (.bool true)], args := [d1, d2, d3] }
  | _ => none }
def configMonotoneRow : OpenClaim := { program := "ytlcakphdkpdenaa", sum := "95c1edb1ce486822b2970ab4a2f9c22bcceab43db2cfad4fd413e7d10e4ab8fa", func := "ropeladder/ropeladderlaw19.ConfigMonotone", spec := "configMonotone", unfollowed := true, recurses := true, apart := false }
def ConfigMonotoneSaid : Prop := configMonotoneRow.holds Try.pinned (OpenSpec.ofChange configMonotoneSpec)

/-- ITS FALSE NEIGHBOUR: 'it returns false'. Refute it at one input. -/
def configMonotoneWrong : ChangeSpec := { name := "configMonotone", fn := fun _ => fun
  | [d1, d2, d3] => { results := [.lit (.bool false)], args := [d1, d2, d3] }
  | _ => none }
def ConfigMonotoneWrongFalsely : Prop := configMonotoneRow.holds Try.pinned (OpenSpec.ofChange configMonotoneWrong)

/-- 'ropeladderlaw19.ConfigErrors': WHATEVER THE INPUT: true; the input reads as it did. -/
def configErrorsSpec : ChangeSpec := { name := "configErrors", fn := fun _ => fun
  | [d1, d2, d3] => { results := [.lit (.bool true)], args := [d1, d2, d3] }
  | _ => none }
def configErrorsRow : OpenClaim := { program := "ytlcakphdkpdenaa", sum := "95c1edb1ce486822b2970ab4a2f9c22bcceab43db2cfad4fd413e7d10e4ab8fa", func := "ropeladder/ropeladderlaw19.ConfigErrors", spec := "configErrors", unfollowed := true, recurses := true, apart := false }
def ConfigErrorsSaid : Prop := configErrorsRow.holds Try.pinned (OpenSpec.ofChange configErrorsSpec)

/-- ITS FALSE NEIGHBOUR: 'it returns false'. Refute it at one input. -/
def configErrorsWrong : ChangeSpec := { name := "configErrors", fn := fun _ => fun
  | [d1, d2, d3] => { results := [.lit (.bool false)], args := [d1, d2, d3] }
  | _ => none }
def ConfigErrorsWrongFalsely : Prop := configErrorsRow.holds Try.pinned (OpenSpec.ofChange configErrorsWrong)

/- THE SECOND FORM. 'bulk': how many values and letters a reading holds, each counted each time it is reached (what is shared counts as often as it is met; a slice's spare places count too). A statement '..UptoSaid' is the law's where the arguments, and the package variables that the reading takes, are together of bulk at most 1048576: NARROWER than '..Said'. Prove '..Said' where nothing that the law and all that it calls make is longer than what came in: it says more and counts as full. Else prove '..UptoSaid'. A law counts once. -/
mutual
def uptoBulk {H : Type} : DataW H → Nat
  | .lit (.string bytes) => bytes.length + 1
  | .lit _ => 1
  | .nil => 1
  | .ptr d => uptoBulk d + 1
  | .slice elems spare => uptoBulkAll elems + uptoBulkAll spare + 1
  | .agg parts => uptoBulkAll parts + 1
  | .iface _ d => uptoBulk d + 1
  | .map entries => uptoBulkEntries entries + 1
  | .held _ => 1
def uptoBulkAll {H : Type} : List (DataW H) → Nat
  | [] => 0
  | d :: r => uptoBulk d + uptoBulkAll r
def uptoBulkEntries {H : Type} : List (Lit × DataW H) → Nat
  | [] => 0
  | x :: r => uptoBulkEntry x + uptoBulkEntries r
def uptoBulkEntry {H : Type} : Lit × DataW H → Nat
  | (.string bytes, d) => bytes.length + uptoBulk d + 1
  | (_, d) => uptoBulk d + 1
 end
def uptoSmall : (H : Type) → List (DataW H) → Bool := fun _ ds => decide (uptoBulkAll ds ≤ 1048576)
def OpenSpec.upto (s : _root_.Go.ChangeSpec) : _root_.Go.OpenSpec := { _root_.Go.OpenSpec.ofChange s with cond := some uptoSmall }

/-- 'ropeladderlaw19.ConfigMatchesReference', WHERE WHAT IT READS IS OF BULK AT MOST 1048576: true; the input reads as it did. -/
def configMatchesReferenceUptoRow : OpenClaim := { program := "ytlcakphdkpdenaa", sum := "95c1edb1ce486822b2970ab4a2f9c22bcceab43db2cfad4fd413e7d10e4ab8fa", func := "ropeladder/ropeladderlaw19.ConfigMatchesReference", spec := "configMatchesReference", unfollowed := true, recurses := true, apart := false, narrowed := true }
def ConfigMatchesReferenceUptoSaid : Prop := configMatchesReferenceUptoRow.holds Try.pinned (OpenSpec.upto configMatchesReferenceSpec)

/-- 'ropeladderlaw19.ConfigConsistent', WHERE WHAT IT READS IS OF BULK AT MOST 1048576: true; the input reads as it did. -/
def configConsistentUptoRow : OpenClaim := { program := "ytlcakphdkpdenaa", sum := "95c1edb1ce486822b2970ab4a2f9c22bcceab43db2cfad4fd413e7d10e4ab8fa", func := "ropeladder/ropeladderlaw19.ConfigConsistent", spec := "configConsistent", unfollowed := true, recurses := true, apart := false, narrowed := true }
def ConfigConsistentUptoSaid : Prop := configConsistentUptoRow.holds Try.pinned (OpenSpec.upto configConsistentSpec)

/-- 'ropeladderlaw19.ConfigMonotone', WHERE WHAT IT READS IS OF BULK AT MOST 1048576: true; the input reads as it did. -/
def configMonotoneUptoRow : OpenClaim := { program := "ytlcakphdkpdenaa", sum := "95c1edb1ce486822b2970ab4a2f9c22bcceab43db2cfad4fd413e7d10e4ab8fa", func := "ropeladder/ropeladderlaw19.ConfigMonotone", spec := "configMonotone", unfollowed := true, recurses := true, apart := false, narrowed := true }
def ConfigMonotoneUptoSaid : Prop := configMonotoneUptoRow.holds Try.pinned (OpenSpec.upto configMonotoneSpec)

/-- 'ropeladderlaw19.ConfigErrors', WHERE WHAT IT READS IS OF BULK AT MOST 1048576: true; the input reads as it did. -/
def configErrorsUptoRow : OpenClaim := { program := "ytlcakphdkpdenaa", sum := "95c1edb1ce486822b2970ab4a2f9c22bcceab43db2cfad4fd413e7d10e4ab8fa", func := "ropeladder/ropeladderlaw19.ConfigErrors", spec := "configErrors", unfollowed := true, recurses := true, apart := false, narrowed := true }
def ConfigErrorsUptoSaid : Prop := configErrorsUptoRow.holds Try.pinned (OpenSpec.upto configErrorsSpec)

end Rows
end Go.Proofs.Ytlcakphdkpdenaa
