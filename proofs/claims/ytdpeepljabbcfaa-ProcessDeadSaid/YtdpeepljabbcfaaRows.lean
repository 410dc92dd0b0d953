/-
  No cell of these rows narrows 'for every input' (looked for: loops, veiled, ifaces, maps, wideKeys, modest, calm, conditions, laid).
  DERIVED. THE GIVEN ROWS OF THIS SEAT. 6 by the template 'for every input the law returns true; each argument reads behind the call as it read before'; 0 by the template 'total and deterministic' (their statements: YtdpeepljabbcfaaTotals.lean).
  GIVEN WITH THE SEED: the statements are not yours to turn. If you find one false, say at which input.
  Laid BY PROGRAM, IN A SANDBOX (cutbox-rows.mjs): the forced cells as the released guide's own fill.sh prints them over the translation be603e9ccb088610… (all of the seat's roots in one cut). By AI agents, Wed Nov 11 2026. No macro, syntax, notation, axiom, sorry.
-/
import Derived.Test.YtdpeepljabbcfaaChecked
import GoSem.Claim
import GoSem.ClaimJoined
import GoSem.ClaimMapViews
import Derived.JoinedTies
import Derived.KernelRfl
namespace Go.Proofs.Ytdpeepljabbcfaa
/- THE CELL 'sum', in the pinned program and in every row, IS THE sha256 OF THE DUMP (.gsa) THAT YtdpeepljabbcfaaProg.lean LOADS. Nothing in Lean hashes anything: it is a label: what it is worth is what the hold of that sum in a sandbox is worth. -/
noncomputable def Try.pinned : Pinned := { name := "ytdpeepljabbcfaa", sum := "be603e9ccb088610f6069b3cf6fefb822a34e89121d02dee4ee7187ec830d5f3", checked := Try.checked }
namespace Rows
def none {H : Type} : Left H := { results := [], args := [] }

/-- 'ropeladderlaw20.ProcessMatchesReference': WHATEVER THE INPUT: true; the input reads as it did. -/
def processMatchesReferenceSpec : ChangeSpec := { name := "processMatchesReference", fn := fun _ => fun
  | [d1, d2, d3, d4] => { results := [.lit (.bool true)], args := [d1, d2, d3, d4] }
  | _ => none }
def processMatchesReferenceRow : OpenClaim := { program := "ytdpeepljabbcfaa", sum := "be603e9ccb088610f6069b3cf6fefb822a34e89121d02dee4ee7187ec830d5f3", func := "ropeladder/ropeladderlaw20.ProcessMatchesReference", spec := "processMatchesReference", unfollowed := true, recurses := true, apart := false }
def ProcessMatchesReferenceSaid : Prop := processMatchesReferenceRow.holds Try.pinned (OpenSpec.ofChange processMatchesReferenceSpec)

/-- ITS FALSE NEIGHBOUR: 'it returns false'. Refute it at one input. -/
def processMatchesReferenceWrong : ChangeSpec := { name := "processMatchesReference", fn := fun _ => fun
  | [d1, d2, d3, d4] => { results := [.lit (.bool false)], args := [d1, d2, d3, d4] }
  | _ => none }
def ProcessMatchesReferenceWrongFalsely : Prop := processMatchesReferenceRow.holds Try.pinned (OpenSpec.ofChange processMatchesReferenceWrong)

/-- 'ropeladderlaw20.ProcessCausal': WHATEVER THE INPUT: true; the input reads as it did. -/
def processCausalSpec : ChangeSpec := { name := "processCausal", fn := fun _ => fun
  | [d1, d2, d3] => { results := [.lit (.bool true)], args := [d1, d2, d3] }
  | _ => none }
def processCausalRow : OpenClaim := { program := "ytdpeepljabbcfaa", sum := "be603e9ccb088610f6069b3cf6fefb822a34e89121d02dee4ee7187ec830d5f3", func := "ropeladder/ropeladderlaw20.ProcessCausal", spec := "processCausal", unfollowed := true, recurses := true, apart := false }
def ProcessCausalSaid : Prop := processCausalRow.holds Try.pinned (OpenSpec.ofChange processCausalSpec)

/-- ITS FALSE NEIGHBOUR: 'it returns false'. Refute it at one input. -/
def processCausalWrong : ChangeSpec := { name := "processCausal", fn := fun _ => fun
  | [d1, d2, d3] => { results := [.lit (.bool false)], args := [d1, d2, d3] }
  | _ => none }
def ProcessCausalWrongFalsely : Prop := processCausalRow.holds Try.pinned (OpenSpec.ofChange processCausalWrong)

/-- 'ropeladderlaw20.ProcessLocal': WHATEVER THE INPUT: true; the input reads as it did. -/
def processLocalSpec : ChangeSpec := { name := "processLocal", fn := fun _ => fun
  | [d1, d2, d3] => { results := [.lit (.bool true)], args := [d1, d2, d3] }
  | _ => none }
def processLocalRow : OpenClaim := { program := "ytdpeepljabbcfaa", sum := "be603e9ccb088610f6069b3cf6fefb822a34e89121d02dee4ee7187ec830d5f3", func := "ropeladder/ropeladderlaw20.ProcessLocal", spec := "processLocal", unfollowed := true, recurses := true, apart := false }
def ProcessLocalSaid : Prop := processLocalRow.holds Try.pinned (OpenSpec.ofChange processLocalSpec)

/-- ITS FALSE NEIGHBOUR: 'it returns false'. Refute it at one input. -/
def processLocalWrong : ChangeSpec := { name := "processLocal", fn := fun _ => fun
  | [d1, d2, d3] => { results := [.lit (.bool false)], args := [d1, d2, d3] }
  | _ => none }
def ProcessLocalWrongFalsely : Prop := processLocalRow.holds Try.pinned (OpenSpec.ofChange processLocalWrong)

/-- 'ropeladderlaw20.ProcessValid': WHATEVER THE INPUT: true; the input reads as it did. -/
def processValidSpec : ChangeSpec := { name := "processValid", fn := fun _ => fun
  | [d1, d2, d3] => { results := [.lit (.bool true)], args := [d1, d2, d3] }
  | _ => none }
def processValidRow : OpenClaim := { program := "ytdpeepljabbcfaa", sum := "be603e9ccb088610f6069b3cf6fefb822a34e89121d02dee4ee7187ec830d5f3", func := "ropeladder/ropeladderlaw20.ProcessValid", spec := "processValid", unfollowed := true, recurses := true, apart := false }
def ProcessValidSaid : Prop := processValidRow.holds Try.pinned (OpenSpec.ofChange processValidSpec)

/-- ITS FALSE NEIGHBOUR: 'it returns false'. Refute it at one input. -/
def processValidWrong : ChangeSpec := { name := "processValid", fn := fun _ => fun
  | [d1, d2, d3] => { results := [.lit (.bool false)], args := [d1, d2, d3] }
  | _ => none }
def ProcessValidWrongFalsely : Prop := processValidRow.holds Try.pinned (OpenSpec.ofChange processValidWrong)

/-- 'ropeladderlaw20.ProcessDead': WHATEVER THE INPUT: true; the input reads as it did. -/
def processDeadSpec : ChangeSpec := { name := "processDead", fn := fun _ => fun
  | [d1, d2, d3] => { results := [.lit (.bool true)], args := [d1, d2, d3] }
  | _ => none }
def processDeadRow : OpenClaim := { program := "ytdpeepljabbcfaa", sum := "be603e9ccb088610f6069b3cf6fefb822a34e89121d02dee4ee7187ec830d5f3", func := "ropeladder/ropeladderlaw20.ProcessDead", spec := "processDead", unfollowed := true, recurses := true, apart := false }
def ProcessDeadSaid : Prop := processDeadRow.holds Try.pinned (OpenSpec.ofChange processDeadSpec)

/-- ITS FALSE NEIGHBOUR: 'it returns false'. Refute it at one input. -/
def processDeadWrong : ChangeSpec := { name := "processDead", fn := fun _ => fun
  | [d1, d2, d3] => { results := [.lit (.bool false)], args := [d1, d2, d3] }
  | _ => none }
def ProcessDeadWrongFalsely : Prop := processDeadRow.holds Try.pinned (OpenSpec.ofChange processDeadWrong)

/-- 'ropeladderlaw20.ProcessShifted': WHATEVER THE INPUT: true; the input reads as it did. -/
def processShiftedSpec : ChangeSpec := { name := "processShifted", fn := fun _ => fun
  | [d1, d2, d3, d4] => { results := [.lit (.bool true)], args := [d1, d2, d3, d4] }
  | _ => none }
def processShiftedRow : OpenClaim := { program := "ytdpeepljabbcfaa", sum := "be603e9ccb088610f6069b3cf6fefb822a34e89121d02dee4ee7187ec830d5f3", func := "ropeladder/ropeladderlaw20.ProcessShifted", spec := "processShifted", unfollowed := true, recurses := true, apart := false }
def ProcessShiftedSaid : Prop := processShiftedRow.holds Try.pinned (OpenSpec.ofChange processShiftedSpec)

/-- ITS FALSE NEIGHBOUR: 'it returns false'. Refute it at one input. -/
def processShiftedWrong : ChangeSpec := { name := "processShifted", fn := fun _ => fun
  | [d1, d2, d3, d4] => { results := [.lit (.bool false)], args := [d1, d2, d3, d4] }
  | _ => none }
def ProcessShiftedWrongFalsely : Prop := processShiftedRow.holds Try.pinned (OpenSpec.ofChange processShiftedWrong)

/- THE SECOND FORM. 'bulk': how many values and letters a reading holds, each counted each time it is reached (what is shared counts as often as it is met; a slice's spare places count too). A statement '..UptoSaid' is the law's where the arguments, and the package variables that the reading takes, are together of bulk at most 1048576: NARROWER than '..Said'. Prove '..Said' where nothing that the law and all that it calls make is longer than what came in: it says more and counts as full. Else prove '..UptoSaid'. A law counts once. -/
mutual
def uptoBulk {H : Type} : DataW H → Nat
  | .lit (.string bytes) => bytes.length + 1
  | .lit _ => 1
  | .nil => 1
  | .ptr d => uptoBulk d + 1
  | .slice elems spare => uptoBulkAll elems + uptoBulkAll spare + 1
  | .agg parts => uptoBulkAll parts + 1
  | .iface _ d => uptoBulk d + 1
  | .map entries => uptoBulkEntries entries + 1
  | .held _ => 1
def uptoBulkAll {H : Type} : List (DataW H) → Nat
  | [] => 0
  | d :: r => uptoBulk d + uptoBulkAll r
def uptoBulkEntries {H : Type} : List (Lit × DataW H) → Nat
  | [] => 0
  | x :: r => uptoBulkEntry x + uptoBulkEntries r
def uptoBulkEntry {H : Type} : Lit × DataW H → Nat
  | (.string bytes, d) => bytes.length + uptoBulk d + 1
  | (_, d) => uptoBulk d + 1
 end
def uptoSmall : (H : Type) → List (DataW H) → Bool := fun _ ds => decide (uptoBulkAll ds ≤ 1048576)
def OpenSpec.upto (s : _root_.Go.ChangeSpec) : _root_.Go.OpenSpec := { _root_.Go.OpenSpec.ofChange s with cond := some uptoSmall }

/-- 'ropeladderlaw20.ProcessMatchesReference', WHERE WHAT IT READS IS OF BULK AT MOST 1048576: true; the input reads as it did. -/
def processMatchesReferenceUptoRow : OpenClaim := { program := "ytdpeepljabbcfaa", sum := "be603e9ccb088610f6069b3cf6fefb822a34e89121d02dee4ee7187ec830d5f3", func := "ropeladder/ropeladderlaw20.ProcessMatchesReference", spec := "processMatchesReference", unfollowed := true, recurses := true, apart := false, narrowed := true }
def ProcessMatchesReferenceUptoSaid : Prop := processMatchesReferenceUptoRow.holds Try.pinned (OpenSpec.upto processMatchesReferenceSpec)

/-- 'ropeladderlaw20.ProcessCausal', WHERE WHAT IT READS IS OF BULK AT MOST 1048576: true; the input reads as it did. -/
def processCausalUptoRow : OpenClaim := { program := "ytdpeepljabbcfaa", sum := "be603e9ccb088610f6069b3cf6fefb822a34e89121d02dee4ee7187ec830d5f3", func := "ropeladder/ropeladderlaw20.ProcessCausal", spec := "processCausal", unfollowed := true, recurses := true, apart := false, narrowed := true }
def ProcessCausalUptoSaid : Prop := processCausalUptoRow.holds Try.pinned (OpenSpec.upto processCausalSpec)

/-- 'ropeladderlaw20.ProcessLocal', WHERE WHAT IT READS IS OF BULK AT MOST 1048576: true; the input reads as it did. -/
def processLocalUptoRow : OpenClaim := { program := "ytdpeepljabbcfaa", sum := "be603e9ccb088610f6069b3cf6fefb822a34e89121d02dee4ee7187ec830d5f3", func := "ropeladder/ropeladderlaw20.ProcessLocal", spec := "processLocal", unfollowed := true, recurses := true, apart := false, narrowed := true }
def ProcessLocalUptoSaid : Prop := processLocalUptoRow.holds Try.pinned (OpenSpec.upto processLocalSpec)

/-- 'ropeladderlaw20.ProcessValid', WHERE WHAT IT READS IS OF BULK AT MOST 1048576: true; the input reads as it did. -/
def processValidUptoRow : OpenClaim := { program := "ytdpeepljabbcfaa", sum := "be603e9ccb088610f6069b3cf6fefb822a34e89121d02dee4ee7187ec830d5f3", func := "ropeladder/ropeladderlaw20.ProcessValid", spec := "processValid", unfollowed := true, recurses := true, apart := false, narrowed := true }
def ProcessValidUptoSaid : Prop := processValidUptoRow.holds Try.pinned (OpenSpec.upto processValidSpec)

/-- 'ropeladderlaw20.ProcessDead', WHERE WHAT IT READS IS OF BULK AT MOST 1048576: true; the input reads as it did. -/
def processDeadUptoRow : OpenClaim := { program := "ytdpeepljabbcfaa", sum := "be603e9ccb088610f6069b3cf6fefb822a34e89121d02dee4ee7187ec830d5f3", func := "ropeladder/ropeladderlaw20.ProcessDead", spec := "processDead", unfollowed := true, recurses := true, apart := false, narrowed := true }
def ProcessDeadUptoSaid : Prop := processDeadUptoRow.holds Try.pinned (OpenSpec.upto processDeadSpec)

/-- 'ropeladderlaw20.ProcessShifted', WHERE WHAT IT READS IS OF BULK AT MOST 1048576: true; the input reads as it did. -/
def processShiftedUptoRow : OpenClaim := { program := "ytdpeepljabbcfaa", sum := "be603e9ccb088610f6069b3cf6fefb822a34e89121d02dee4ee7187ec830d5f3", func := "ropeladder/ropeladderlaw20.ProcessShifted", spec := "processShifted", unfollowed := true, recurses := true, apart := false, narrowed := true }
def ProcessShiftedUptoSaid : Prop := processShiftedUptoRow.holds Try.pinned (OpenSpec.upto processShiftedSpec)

end Rows
end Go.Proofs.Ytdpeepljabbcfaa
