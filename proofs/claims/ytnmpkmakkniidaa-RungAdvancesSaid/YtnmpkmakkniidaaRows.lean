/-
  No cell of these rows narrows 'for every input' (looked for: loops, veiled, ifaces, maps, wideKeys, modest, calm, conditions, laid).
  DERIVED. THE GIVEN ROWS OF THIS SEAT. 5 by the template 'for every input the law returns true; each argument reads behind the call as it read before'; 0 by the template 'total and deterministic' (their statements: YtnmpkmakkniidaaTotals.lean).
  GIVEN WITH THE SEED: the statements are not yours to turn. If you find one false, say at which input.
  Laid BY PROGRAM, IN A SANDBOX (cutbox-rows.mjs): the forced cells as the released guide's own fill.sh prints them over the translation 9a975b1513b90b36… (all of the seat's roots in one cut). By AI agents, Wed Nov 11 2026. No macro, syntax, notation, axiom, sorry.
-/
import Derived.Test.YtnmpkmakkniidaaChecked
import GoSem.Claim
import GoSem.ClaimJoined
import GoSem.ClaimMapViews
import Derived.JoinedTies
import Derived.KernelRfl
namespace Go.Proofs.Ytnmpkmakkniidaa
/- THE CELL 'sum', in the pinned program and in every row, IS THE sha256 OF THE DUMP (.gsa) THAT YtnmpkmakkniidaaProg.lean LOADS. Nothing in Lean hashes anything: it is a label: what it is worth is what the hold of that sum in a sandbox is worth. -/
noncomputable def Try.pinned : Pinned := { name := "ytnmpkmakkniidaa", sum := "9a975b1513b90b365349fded3d80f2e00aa37f044415459ca3b2f85b0f953081", checked := Try.checked }
namespace Rows
def none {H : Type} : Left H := { results := [], args := [] }

/-- 'ropeladderlaw07.RungMatchesReference': WHATEVER THE INPUT: true; the input reads as it did. -/
def rungMatchesReferenceSpec : ChangeSpec := { name := "rungMatchesReference", fn := fun _ => fun
  | [d1, d2, d3, d4, d5] => { results := [.lit (.bool true)], args := [d1, d2, d3, d4, d5] }
  | _ => none }
def rungMatchesReferenceRow : OpenClaim := { program := "ytnmpkmakkniidaa", sum := "9a975b1513b90b365349fded3d80f2e00aa37f044415459ca3b2f85b0f953081", func := "ropeladder/ropeladderlaw07.RungMatchesReference", spec := "rungMatchesReference", unfollowed := true, recurses := true, apart := false }
def RungMatchesReferenceSaid : Prop := rungMatchesReferenceRow.holds Try.pinned (OpenSpec.ofChange rungMatchesReferenceSpec)

/-- ITS FALSE NEIGHBOUR: 'it returns false'. Refute it at one input. -/
def rungMatchesReferenceWrong : ChangeSpec := { name := "rungMatchesReference", fn := fun _ => fun
  | [d1, d2, d3, d4, d5] => { results := [.lit (.bool false)], args := [d1, d2, d3, d4, d5] }
  | _ => none }
def RungMatchesReferenceWrongFalsely : Prop := rungMatchesReferenceRow.holds Try.pinned (OpenSpec.ofChange rungMatchesReferenceWrong)

/-- 'ropeladderlaw07.RungInvariant': WHATEVER THE INPUT: true; the input reads as it did. -/
def rungInvariantSpec : ChangeSpec := { name := "rungInvariant", fn := fun _ => fun
  | [d1, d2, d3, d4] => { results := [.lit (.bool true)], args := [d1, d2, d3, d4] }
  | _ => none }
def rungInvariantRow : OpenClaim := { program := "ytnmpkmakkniidaa", sum := "9a975b1513b90b365349fded3d80f2e00aa37f044415459ca3b2f85b0f953081", func := "ropeladder/ropeladderlaw07.RungInvariant", spec := "rungInvariant", unfollowed := true, recurses := true, apart := false }
def RungInvariantSaid : Prop := rungInvariantRow.holds Try.pinned (OpenSpec.ofChange rungInvariantSpec)

/-- ITS FALSE NEIGHBOUR: 'it returns false'. Refute it at one input. -/
def rungInvariantWrong : ChangeSpec := { name := "rungInvariant", fn := fun _ => fun
  | [d1, d2, d3, d4] => { results := [.lit (.bool false)], args := [d1, d2, d3, d4] }
  | _ => none }
def RungInvariantWrongFalsely : Prop := rungInvariantRow.holds Try.pinned (OpenSpec.ofChange rungInvariantWrong)

/-- 'ropeladderlaw07.RungOrder': WHATEVER THE INPUT: true; the input reads as it did. -/
def rungOrderSpec : ChangeSpec := { name := "rungOrder", fn := fun _ => fun
  | [d1, d2, d3] => { results := [.lit (.bool true)], args := [d1, d2, d3] }
  | _ => none }
def rungOrderRow : OpenClaim := { program := "ytnmpkmakkniidaa", sum := "9a975b1513b90b365349fded3d80f2e00aa37f044415459ca3b2f85b0f953081", func := "ropeladder/ropeladderlaw07.RungOrder", spec := "rungOrder", unfollowed := true, recurses := true, apart := false }
def RungOrderSaid : Prop := rungOrderRow.holds Try.pinned (OpenSpec.ofChange rungOrderSpec)

/-- ITS FALSE NEIGHBOUR: 'it returns false'. Refute it at one input. -/
def rungOrderWrong : ChangeSpec := { name := "rungOrder", fn := fun _ => fun
  | [d1, d2, d3] => { results := [.lit (.bool false)], args := [d1, d2, d3] }
  | _ => none }
def RungOrderWrongFalsely : Prop := rungOrderRow.holds Try.pinned (OpenSpec.ofChange rungOrderWrong)

/-- 'ropeladderlaw07.RungAccepts': WHATEVER THE INPUT: true; the input reads as it did. -/
def rungAcceptsSpec : ChangeSpec := { name := "rungAccepts", fn := fun _ => fun
  | [d1, d2, d3, d4] => { results := [.lit (.bool true)], args := [d1, d2, d3, d4] }
  | _ => none }
def rungAcceptsRow : OpenClaim := { program := "ytnmpkmakkniidaa", sum := "9a975b1513b90b365349fded3d80f2e00aa37f044415459ca3b2f85b0f953081", func := "ropeladder/ropeladderlaw07.RungAccepts", spec := "rungAccepts", unfollowed := true, recurses := true, apart := false }
def RungAcceptsSaid : Prop := rungAcceptsRow.holds Try.pinned (OpenSpec.ofChange rungAcceptsSpec)

/-- ITS FALSE NEIGHBOUR: 'it returns false'. Refute it at one input. -/
def rungAcceptsWrong : ChangeSpec := { name := "rungAccepts", fn := fun _ => fun
  | [d1, d2, d3, d4] => { results := [.lit (.bool false)], args := [d1, d2, d3, d4] }
  | _ => none }
def RungAcceptsWrongFalsely : Prop := rungAcceptsRow.holds Try.pinned (OpenSpec.ofChange rungAcceptsWrong)

/-- 'ropeladderlaw07.RungAdvances': WHATEVER THE INPUT: true; the input reads as it did. -/
def rungAdvancesSpec : ChangeSpec := { name := "rungAdvances", fn := fun _ => fun
  | [d1, d2, d3, d4] => { results := [.lit (.bool true)], args := [d1, d2, d3, d4] }
  | _ => none }
def rungAdvancesRow : OpenClaim := { program := "ytnmpkmakkniidaa", sum := "9a975b1513b90b365349fded3d80f2e00aa37f044415459ca3b2f85b0f953081", func := "ropeladder/ropeladderlaw07.RungAdvances", spec := "rungAdvances", unfollowed := true, recurses := true, apart := false }
def RungAdvancesSaid : Prop := rungAdvancesRow.holds Try.pinned (OpenSpec.ofChange rungAdvancesSpec)

/-- ITS FALSE NEIGHBOUR: 'it returns false'. Refute it at one input. -/
def rungAdvancesWrong : ChangeSpec := { name := "rungAdvances", fn := fun _ => fun
  | [d1, d2, d3, d4] => { results := [.lit (.bool false)], args := [d1, d2, d3, d4] }
  | _ => none }
def RungAdvancesWrongFalsely : Prop := rungAdvancesRow.holds Try.pinned (OpenSpec.ofChange rungAdvancesWrong)

/- THE SECOND FORM. 'bulk': how many values and letters a reading holds, each counted each time it is reached (what is shared counts as often as it is met; a slice's spare places count too). A statement '..UptoSaid' is the law's where the arguments, and the package variables that the reading takes, are together of bulk at most 1048576: NARROWER than '..Said'. Prove '..Said' where nothing that the law and all that it calls make is longer than what came in: it says more and counts as full. Else prove '..UptoSaid'. A law counts once. -/
mutual
def uptoBulk {H : Type} : DataW H → Nat
  | .lit (.string bytes) => bytes.length + 1
  | .lit _ => 1
  | .nil => 1
  | .ptr d => uptoBulk d + 1
  | .slice elems spare => uptoBulkAll elems + uptoBulkAll spare + 1
  | .agg parts => uptoBulkAll parts + 1
  | .iface _ d => uptoBulk d + 1
  | .map entries => uptoBulkEntries entries + 1
  | .held _ => 1
def uptoBulkAll {H : Type} : List (DataW H) → Nat
  | [] => 0
  | d :: r => uptoBulk d + uptoBulkAll r
def uptoBulkEntries {H : Type} : List (Lit × DataW H) → Nat
  | [] => 0
  | x :: r => uptoBulkEntry x + uptoBulkEntries r
def uptoBulkEntry {H : Type} : Lit × DataW H → Nat
  | (.string bytes, d) => bytes.length + uptoBulk d + 1
  | (_, d) => uptoBulk d + 1
 end
def uptoSmall : (H : Type) → List (DataW H) → Bool := fun _ ds => decide (uptoBulkAll ds ≤ 1048576)
def OpenSpec.upto (s : _root_.Go.ChangeSpec) : _root_.Go.OpenSpec := { _root_.Go.OpenSpec.ofChange s with cond := some uptoSmall }

/-- 'ropeladderlaw07.RungMatchesReference', WHERE WHAT IT READS IS OF BULK AT MOST 1048576: true; the input reads as it did. -/
def rungMatchesReferenceUptoRow : OpenClaim := { program := "ytnmpkmakkniidaa", sum := "9a975b1513b90b365349fded3d80f2e00aa37f044415459ca3b2f85b0f953081", func := "ropeladder/ropeladderlaw07.RungMatchesReference", spec := "rungMatchesReference", unfollowed := true, recurses := true, apart := false, narrowed := true }
def RungMatchesReferenceUptoSaid : Prop := rungMatchesReferenceUptoRow.holds Try.pinned (OpenSpec.upto rungMatchesReferenceSpec)

/-- 'ropeladderlaw07.RungInvariant', WHERE WHAT IT READS IS OF BULK AT MOST 1048576: true; the input reads as it did. -/
def rungInvariantUptoRow : OpenClaim := { program := "ytnmpkmakkniidaa", sum := "9a975b1513b90b365349fded3d80f2e00aa37f044415459ca3b2f85b0f953081", func := "ropeladder/ropeladderlaw07.RungInvariant", spec := "rungInvariant", unfollowed := true, recurses := true, apart := false, narrowed := true }
def RungInvariantUptoSaid : Prop := rungInvariantUptoRow.holds Try.pinned (OpenSpec.upto rungInvariantSpec)

/-- 'ropeladderlaw07.RungOrder', WHERE WHAT IT READS IS OF BULK AT MOST 1048576: true; the input reads as it did. -/
def rungOrderUptoRow : OpenClaim := { program := "ytnmpkmakkniidaa", sum := "9a975b1513b90b365349fded3d80f2e00aa37f044415459ca3b2f85b0f953081", func := "ropeladder/ropeladderlaw07.RungOrder", spec := "rungOrder", unfollowed := true, recurses := true, apart := false, narrowed := true }
def RungOrderUptoSaid : Prop := rungOrderUptoRow.holds Try.pinned (OpenSpec.upto rungOrderSpec)

/-- 'ropeladderlaw07.RungAccepts', WHERE WHAT IT READS IS OF BULK AT MOST 1048576: true; the input reads as it did. -/
def rungAcceptsUptoRow : OpenClaim := { program := "ytnmpkmakkniidaa", sum := "9a975b1513b90b365349fded3d80f2e00aa37f044415459ca3b2f85b0f953081", func := "ropeladder/ropeladderlaw07.RungAccepts", spec := "rungAccepts", unfollowed := true, recurses := true, apart := false, narrowed := true }
def RungAcceptsUptoSaid : Prop := rungAcceptsUptoRow.holds Try.pinned (OpenSpec.upto rungAcceptsSpec)

/-- 'ropeladderlaw07.RungAdvances', WHERE WHAT IT READS IS OF BULK AT MOST 1048576: true; the input reads as it did. -/
def rungAdvancesUptoRow : OpenClaim := { program := "ytnmpkmakkniidaa", sum := "9a975b1513b90b365349fded3d80f2e00aa37f044415459ca3b2f85b0f953081", func := "ropeladder/ropeladderlaw07.RungAdvances", spec := "rungAdvances", unfollowed := true, recurses := true, apart := false, narrowed := true }
def RungAdvancesUptoSaid : Prop := rungAdvancesUptoRow.holds Try.pinned (OpenSpec.upto rungAdvancesSpec)

end Rows
end Go.Proofs.Ytnmpkmakkniidaa
