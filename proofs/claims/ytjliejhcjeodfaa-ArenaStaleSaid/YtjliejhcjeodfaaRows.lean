/-
  No cell of these rows narrows 'for every input' (looked for: loops, veiled, ifaces, maps, wideKeys, modest, calm, conditions, laid).
  DERIVED. THE GIVEN ROWS OF THIS SEAT. 5 by the template 'for every input the law returns true; each argument reads behind the call as it read before'; 0 by the template 'total and deterministic' (their statements: YtjliejhcjeodfaaTotals.lean).
  GIVEN WITH THE SEED: the statements are not yours to turn. If you find one false, say at which input.
  Laid BY PROGRAM, IN A SANDBOX (cutbox-rows.mjs): the forced cells as the released guide's own fill.sh prints them over the translation a63c60d6d1846467… (all of the seat's roots in one cut). By AI agents, Wed Nov 11 2026. No macro, syntax, notation, axiom, sorry.
-/
import Derived.Test.YtjliejhcjeodfaaChecked
import GoSem.Claim
import GoSem.ClaimJoined
import GoSem.ClaimMapViews
import Derived.JoinedTies
import Derived.KernelRfl
namespace Go.Proofs.Ytjliejhcjeodfaa
/- THE CELL 'sum', in the pinned program and in every row, IS THE sha256 OF THE DUMP (.gsa) THAT YtjliejhcjeodfaaProg.lean LOADS. Nothing in Lean hashes anything: it is a label: what it is worth is what the hold of that sum in a sandbox is worth. -/
noncomputable def Try.pinned : Pinned := { name := "ytjliejhcjeodfaa", sum := "a63c60d6d18464679c38f7b974505f4b6cfc53e10a1f3c91a5e41aed5703dfd4", checked := Try.checked }
namespace Rows
def none {H : Type} : Left H := { results := [], args := [] }

/-- 'ropeladderlaw05.ArenaMatchesReference': WHATEVER THE INPUT: true; the input reads as it did. -/
def arenaMatchesReferenceSpec : ChangeSpec := { name := "arenaMatchesReference", fn := fun _ => fun
  | [d1, d2, d3, d4, d5] => { results := [.lit (.bool true)], args := [d1, d2, d3, d4, d5] }
  | _ => none }
def arenaMatchesReferenceRow : OpenClaim := { program := "ytjliejhcjeodfaa", sum := "a63c60d6d18464679c38f7b974505f4b6cfc53e10a1f3c91a5e41aed5703dfd4", func := "ropeladder/ropeladderlaw05.ArenaMatchesReference", spec := "arenaMatchesReference", unfollowed := true, recurses := true, apart := false }
def ArenaMatchesReferenceSaid : Prop := arenaMatchesReferenceRow.holds Try.pinned (OpenSpec.ofChange arenaMatchesReferenceSpec)

/-- ITS FALSE NEIGHBOUR: 'it returns false'. Refute it at one input. -/
def arenaMatchesReferenceWrong : ChangeSpec := { name := "arenaMatchesReference", fn := fun _ => fun
  | [d1, d2, d3, d4, d5] => { results := [.lit (.bool false)], args := [d1, d2, d3, d4, d5] }
  | _ => none }
def ArenaMatchesReferenceWrongFalsely : Prop := arenaMatchesReferenceRow.holds Try.pinned (OpenSpec.ofChange arenaMatchesReferenceWrong)

/-- 'ropeladderlaw05.ArenaInvariant': WHATEVER THE INPUT: true; the input reads as it did. -/
def arenaInvariantSpec : ChangeSpec := { name := "arenaInvariant", fn := fun _ => fun
  | [d1, d2, d3] => { results := [.lit (.bool true)], args := [d1, d2, d3] }
  | _ => none }
def arenaInvariantRow : OpenClaim := { program := "ytjliejhcjeodfaa", sum := "a63c60d6d18464679c38f7b974505f4b6cfc53e10a1f3c91a5e41aed5703dfd4", func := "ropeladder/ropeladderlaw05.ArenaInvariant", spec := "arenaInvariant", unfollowed := true, recurses := true, apart := false }
def ArenaInvariantSaid : Prop := arenaInvariantRow.holds Try.pinned (OpenSpec.ofChange arenaInvariantSpec)

/-- ITS FALSE NEIGHBOUR: 'it returns false'. Refute it at one input. -/
def arenaInvariantWrong : ChangeSpec := { name := "arenaInvariant", fn := fun _ => fun
  | [d1, d2, d3] => { results := [.lit (.bool false)], args := [d1, d2, d3] }
  | _ => none }
def ArenaInvariantWrongFalsely : Prop := arenaInvariantRow.holds Try.pinned (OpenSpec.ofChange arenaInvariantWrong)

/-- 'ropeladderlaw05.ArenaStale': WHATEVER THE INPUT: true; the input reads as it did. -/
def arenaStaleSpec : ChangeSpec := { name := "arenaStale", fn := fun _ => fun
  | [d1, d2, d3, d4] => { results := [.lit (.bool true)], args := [d1, d2, d3, d4] }
  | _ => none }
def arenaStaleRow : OpenClaim := { program := "ytjliejhcjeodfaa", sum := "a63c60d6d18464679c38f7b974505f4b6cfc53e10a1f3c91a5e41aed5703dfd4", func := "ropeladder/ropeladderlaw05.ArenaStale", spec := "arenaStale", unfollowed := true, recurses := true, apart := false }
def ArenaStaleSaid : Prop := arenaStaleRow.holds Try.pinned (OpenSpec.ofChange arenaStaleSpec)

/-- ITS FALSE NEIGHBOUR: 'it returns false'. Refute it at one input. -/
def arenaStaleWrong : ChangeSpec := { name := "arenaStale", fn := fun _ => fun
  | [d1, d2, d3, d4] => { results := [.lit (.bool false)], args := [d1, d2, d3, d4] }
  | _ => none }
def ArenaStaleWrongFalsely : Prop := arenaStaleRow.holds Try.pinned (OpenSpec.ofChange arenaStaleWrong)

/-- 'ropeladderlaw05.ArenaCapacity': WHATEVER THE INPUT: true; the input reads as it did. -/
def arenaCapacitySpec : ChangeSpec := { name := "arenaCapacity", fn := fun _ => fun
  | [d1, d2, d3, d4] => { results := [.lit (.bool true)], args := [d1, d2, d3, d4] }
  | _ => none }
def arenaCapacityRow : OpenClaim := { program := "ytjliejhcjeodfaa", sum := "a63c60d6d18464679c38f7b974505f4b6cfc53e10a1f3c91a5e41aed5703dfd4", func := "ropeladder/ropeladderlaw05.ArenaCapacity", spec := "arenaCapacity", unfollowed := true, recurses := true, apart := false }
def ArenaCapacitySaid : Prop := arenaCapacityRow.holds Try.pinned (OpenSpec.ofChange arenaCapacitySpec)

/-- ITS FALSE NEIGHBOUR: 'it returns false'. Refute it at one input. -/
def arenaCapacityWrong : ChangeSpec := { name := "arenaCapacity", fn := fun _ => fun
  | [d1, d2, d3, d4] => { results := [.lit (.bool false)], args := [d1, d2, d3, d4] }
  | _ => none }
def ArenaCapacityWrongFalsely : Prop := arenaCapacityRow.holds Try.pinned (OpenSpec.ofChange arenaCapacityWrong)

/-- 'ropeladderlaw05.ArenaIssued': WHATEVER THE INPUT: true; the input reads as it did. -/
def arenaIssuedSpec : ChangeSpec := { name := "arenaIssued", fn := fun _ => fun
  | [d1, d2, d3] => { results := [.lit (.bool true)], args := [d1, d2, d3] }
  | _ => none }
def arenaIssuedRow : OpenClaim := { program := "ytjliejhcjeodfaa", sum := "a63c60d6d18464679c38f7b974505f4b6cfc53e10a1f3c91a5e41aed5703dfd4", func := "ropeladder/ropeladderlaw05.ArenaIssued", spec := "arenaIssued", unfollowed := true, recurses := true, apart := false }
def ArenaIssuedSaid : Prop := arenaIssuedRow.holds Try.pinned (OpenSpec.ofChange arenaIssuedSpec)

/-- ITS FALSE NEIGHBOUR: 'it returns false'. Refute it at one input. -/
def arenaIssuedWrong : ChangeSpec := { name := "arenaIssued", fn := fun _ => fun
  | [d1, d2, d3] => { results := [.lit (.bool false)], args := [d1, d2, d3] }
  | _ => none }
def ArenaIssuedWrongFalsely : Prop := arenaIssuedRow.holds Try.pinned (OpenSpec.ofChange arenaIssuedWrong)

/- THE SECOND FORM. 'bulk': how many values and letters a reading holds, each counted each time it is reached (what is shared counts as often as it is met; a slice's spare places count too). A statement '..UptoSaid' is the law's where the arguments, and the package variables that the reading takes, are together of bulk at most 1048576: NARROWER than '..Said'. Prove '..Said' where nothing that the law and all that it calls make is longer than what came in: it says more and counts as full. Else prove '..UptoSaid'. A law counts once. -/
mutual
def uptoBulk {H : Type} : DataW H → Nat
  | .lit (.string bytes) => bytes.length + 1
  | .lit _ => 1
  | .nil => 1
  | .ptr d => uptoBulk d + 1
  | .slice elems spare => uptoBulkAll elems + uptoBulkAll spare + 1
  | .agg parts => uptoBulkAll parts + 1
  | .iface _ d => uptoBulk d + 1
  | .map entries => uptoBulkEntries entries + 1
  | .held _ => 1
def uptoBulkAll {H : Type} : List (DataW H) → Nat
  | [] => 0
  | d :: r => uptoBulk d + uptoBulkAll r
def uptoBulkEntries {H : Type} : List (Lit × DataW H) → Nat
  | [] => 0
  | x :: r => uptoBulkEntry x + uptoBulkEntries r
def uptoBulkEntry {H : Type} : Lit × DataW H → Nat
  | (.string bytes, d) => bytes.length + uptoBulk d + 1
  | (_, d) => uptoBulk d + 1
 end
def uptoSmall : (H : Type) → List (DataW H) → Bool := fun _ ds => decide (uptoBulkAll ds ≤ 1048576)
def OpenSpec.upto (s : _root_.Go.ChangeSpec) : _root_.Go.OpenSpec := { _root_.Go.OpenSpec.ofChange s with cond := some uptoSmall }

/-- 'ropeladderlaw05.ArenaMatchesReference', WHERE WHAT IT READS IS OF BULK AT MOST 1048576: true; the input reads as it did. -/
def arenaMatchesReferenceUptoRow : OpenClaim := { program := "ytjliejhcjeodfaa", sum := "a63c60d6d18464679c38f7b974505f4b6cfc53e10a1f3c91a5e41aed5703dfd4", func := "ropeladder/ropeladderlaw05.ArenaMatchesReference", spec := "arenaMatchesReference", unfollowed := true, recurses := true, apart := false, narrowed := true }
def ArenaMatchesReferenceUptoSaid : Prop := arenaMatchesReferenceUptoRow.holds Try.pinned (OpenSpec.upto arenaMatchesReferenceSpec)

/-- 'ropeladderlaw05.ArenaInvariant', WHERE WHAT IT READS IS OF BULK AT MOST 1048576: true; the input reads as it did. -/
def arenaInvariantUptoRow : OpenClaim := { program := "ytjliejhcjeodfaa", sum := "a63c60d6d18464679c38f7b974505f4b6cfc53e10a1f3c91a5e41aed5703dfd4", func := "ropeladder/ropeladderlaw05.ArenaInvariant", spec := "arenaInvariant", unfollowed := true, recurses := true, apart := false, narrowed := true }
def ArenaInvariantUptoSaid : Prop := arenaInvariantUptoRow.holds Try.pinned (OpenSpec.upto arenaInvariantSpec)

/-- 'ropeladderlaw05.ArenaStale', WHERE WHAT IT READS IS OF BULK AT MOST 1048576: true; the input reads as it did. -/
def arenaStaleUptoRow : OpenClaim := { program := "ytjliejhcjeodfaa", sum := "a63c60d6d18464679c38f7b974505f4b6cfc53e10a1f3c91a5e41aed5703dfd4", func := "ropeladder/ropeladderlaw05.ArenaStale", spec := "arenaStale", unfollowed := true, recurses := true, apart := false, narrowed := true }
def ArenaStaleUptoSaid : Prop := arenaStaleUptoRow.holds Try.pinned (OpenSpec.upto arenaStaleSpec)

/-- 'ropeladderlaw05.ArenaCapacity', WHERE WHAT IT READS IS OF BULK AT MOST 1048576: true; the input reads as it did. -/
def arenaCapacityUptoRow : OpenClaim := { program := "ytjliejhcjeodfaa", sum := "a63c60d6d18464679c38f7b974505f4b6cfc53e10a1f3c91a5e41aed5703dfd4", func := "ropeladder/ropeladderlaw05.ArenaCapacity", spec := "arenaCapacity", unfollowed := true, recurses := true, apart := false, narrowed := true }
def ArenaCapacityUptoSaid : Prop := arenaCapacityUptoRow.holds Try.pinned (OpenSpec.upto arenaCapacitySpec)

/-- 'ropeladderlaw05.ArenaIssued', WHERE WHAT IT READS IS OF BULK AT MOST 1048576: true; the input reads as it did. -/
def arenaIssuedUptoRow : OpenClaim := { program := "ytjliejhcjeodfaa", sum := "a63c60d6d18464679c38f7b974505f4b6cfc53e10a1f3c91a5e41aed5703dfd4", func := "ropeladder/ropeladderlaw05.ArenaIssued", spec := "arenaIssued", unfollowed := true, recurses := true, apart := false, narrowed := true }
def ArenaIssuedUptoSaid : Prop := arenaIssuedUptoRow.holds Try.pinned (OpenSpec.upto arenaIssuedSpec)

end Rows
end Go.Proofs.Ytjliejhcjeodfaa
