/-
  No cell of these rows narrows 'for every input' (looked for: loops, veiled, ifaces, maps, wideKeys, modest, calm, conditions, laid).
  DERIVED. THE GIVEN ROWS OF THIS SEAT. 5 by the template 'for every input the law returns true; each argument reads behind the call as it read before'; 0 by the template 'total and deterministic' (their statements: YtdphbgnlmffgaaaTotals.lean).
  GIVEN WITH THE SEED: the statements are not yours to turn. If you find one false, say at which input.
  Laid BY PROGRAM, IN A SANDBOX (cutbox-rows.mjs): the forced cells as the released guide's own fill.sh prints them over the translation 9150c5493e099dba… (all of the seat's roots in one cut). By AI agents, Wed Nov 11 2026. No macro, syntax, notation, axiom, sorry.
-/
import Derived.Test.YtdphbgnlmffgaaaChecked
import GoSem.Claim
import GoSem.ClaimJoined
import GoSem.ClaimMapViews
import Derived.JoinedTies
import Derived.KernelRfl
namespace Go.Proofs.Ytdphbgnlmffgaaa
/- THE CELL 'sum', in the pinned program and in every row, IS THE sha256 OF THE DUMP (.gsa) THAT YtdphbgnlmffgaaaProg.lean LOADS. Nothing in Lean hashes anything: it is a label: what it is worth is what the hold of that sum in a sandbox is worth. -/
noncomputable def Try.pinned : Pinned := { name := "ytdphbgnlmffgaaa", sum := "9150c5493e099dba1c4dc59d096ba6a7637379117c5724929191215c2f01f06b", checked := Try.checked }
namespace Rows
def none {H : Type} : Left H := { results := [], args := [] }

/-- 'ropeladderlaw22.MailboxMatchesReference': WHATEVER THE INPUT: true; the input reads as it did. -/
def mailboxMatchesReferenceSpec : ChangeSpec := { name := "mailboxMatchesReference", fn := fun _ => fun
  | [d1, d2, d3, d4] => { results := [.lit (.bool true)], args := [d1, d2, d3, d4] }
  | _ => none }
def mailboxMatchesReferenceRow : OpenClaim := { program := "ytdphbgnlmffgaaa", sum := "9150c5493e099dba1c4dc59d096ba6a7637379117c5724929191215c2f01f06b", func := "ropeladder/ropeladderlaw22.MailboxMatchesReference", spec := "mailboxMatchesReference", inPlace := ["slices.overlaps[ropeladder/api.SimEvent]"], unfollowed := true, recurses := true, apart := false }
def MailboxMatchesReferenceSaid : Prop := mailboxMatchesReferenceRow.holds Try.pinned (OpenSpec.ofChange mailboxMatchesReferenceSpec)

/-- ITS FALSE NEIGHBOUR: 'it returns false'. Refute it at one input. -/
def mailboxMatchesReferenceWrong : ChangeSpec := { name := "mailboxMatchesReference", fn := fun _ => fun
  | [d1, d2, d3, d4] => { results := [.lit (.bool false)], args := [d1, d2, d3, d4] }
  | _ => none }
def MailboxMatchesReferenceWrongFalsely : Prop := mailboxMatchesReferenceRow.holds Try.pinned (OpenSpec.ofChange mailboxMatchesReferenceWrong)

/-- 'ropeladderlaw22.MailboxOrdered': WHATEVER THE INPUT: true; the input reads as it did. -/
def mailboxOrderedSpec : ChangeSpec := { name := "mailboxOrdered", fn := fun _ => fun
  | [d1, d2, d3, d4] => { results := [.lit (.bool true)], args := [d1, d2, d3, d4] }
  | _ => none }
def mailboxOrderedRow : OpenClaim := { program := "ytdphbgnlmffgaaa", sum := "9150c5493e099dba1c4dc59d096ba6a7637379117c5724929191215c2f01f06b", func := "ropeladder/ropeladderlaw22.MailboxOrdered", spec := "mailboxOrdered", inPlace := ["slices.overlaps[ropeladder/api.SimEvent]"], unfollowed := true, recurses := true, apart := false }
def MailboxOrderedSaid : Prop := mailboxOrderedRow.holds Try.pinned (OpenSpec.ofChange mailboxOrderedSpec)

/-- ITS FALSE NEIGHBOUR: 'it returns false'. Refute it at one input. -/
def mailboxOrderedWrong : ChangeSpec := { name := "mailboxOrdered", fn := fun _ => fun
  | [d1, d2, d3, d4] => { results := [.lit (.bool false)], args := [d1, d2, d3, d4] }
  | _ => none }
def MailboxOrderedWrongFalsely : Prop := mailboxOrderedRow.holds Try.pinned (OpenSpec.ofChange mailboxOrderedWrong)

/-- 'ropeladderlaw22.MailboxOneByOne': WHATEVER THE INPUT: true; the input reads as it did. -/
def mailboxOneByOneSpec : ChangeSpec := { name := "mailboxOneByOne", fn := fun _ => fun
  | [d1, d2] => { results := [.lit (.bool true)], args := [d1, d2] }
  | _ => none }
def mailboxOneByOneRow : OpenClaim := { program := "ytdphbgnlmffgaaa", sum := "9150c5493e099dba1c4dc59d096ba6a7637379117c5724929191215c2f01f06b", func := "ropeladder/ropeladderlaw22.MailboxOneByOne", spec := "mailboxOneByOne", inPlace := ["slices.overlaps[ropeladder/api.SimEvent]"], unfollowed := true, recurses := true, apart := false }
def MailboxOneByOneSaid : Prop := mailboxOneByOneRow.holds Try.pinned (OpenSpec.ofChange mailboxOneByOneSpec)

/-- ITS FALSE NEIGHBOUR: 'it returns false'. Refute it at one input. -/
def mailboxOneByOneWrong : ChangeSpec := { name := "mailboxOneByOne", fn := fun _ => fun
  | [d1, d2] => { results := [.lit (.bool false)], args := [d1, d2] }
  | _ => none }
def MailboxOneByOneWrongFalsely : Prop := mailboxOneByOneRow.holds Try.pinned (OpenSpec.ofChange mailboxOneByOneWrong)

/-- 'ropeladderlaw22.MailboxDrains': WHATEVER THE INPUT: true; the input reads as it did. -/
def mailboxDrainsSpec : ChangeSpec := { name := "mailboxDrains", fn := fun _ => fun
  | [d1, d2] => { results := [.lit (.bool true)], args := [d1, d2] }
  | _ => none }
def mailboxDrainsRow : OpenClaim := { program := "ytdphbgnlmffgaaa", sum := "9150c5493e099dba1c4dc59d096ba6a7637379117c5724929191215c2f01f06b", func := "ropeladder/ropeladderlaw22.MailboxDrains", spec := "mailboxDrains", inPlace := ["slices.overlaps[ropeladder/api.SimEvent]"], unfollowed := true, recurses := true, apart := false }
def MailboxDrainsSaid : Prop := mailboxDrainsRow.holds Try.pinned (OpenSpec.ofChange mailboxDrainsSpec)

/-- ITS FALSE NEIGHBOUR: 'it returns false'. Refute it at one input. -/
def mailboxDrainsWrong : ChangeSpec := { name := "mailboxDrains", fn := fun _ => fun
  | [d1, d2] => { results := [.lit (.bool false)], args := [d1, d2] }
  | _ => none }
def MailboxDrainsWrongFalsely : Prop := mailboxDrainsRow.holds Try.pinned (OpenSpec.ofChange mailboxDrainsWrong)

/-- 'ropeladderlaw22.MailboxCancels': WHATEVER THE INPUT: true; the input reads as it did. -/
def mailboxCancelsSpec : ChangeSpec := { name := "mailboxCancels", fn := fun _ => fun
  | [d1, d2] => { results := [.lit (.bool true)], args := [d1, d2] }
  | _ => none }
def mailboxCancelsRow : OpenClaim := { program := "ytdphbgnlmffgaaa", sum := "9150c5493e099dba1c4dc59d096ba6a7637379117c5724929191215c2f01f06b", func := "ropeladder/ropeladderlaw22.MailboxCancels", spec := "mailboxCancels", inPlace := ["slices.overlaps[ropeladder/api.SimEvent]"], unfollowed := true, recurses := true, apart := false }
def MailboxCancelsSaid : Prop := mailboxCancelsRow.holds Try.pinned (OpenSpec.ofChange mailboxCancelsSpec)

/-- ITS FALSE NEIGHBOUR: 'it returns false'. Refute it at one input. -/
def mailboxCancelsWrong : ChangeSpec := { name := "mailboxCancels", fn := fun _ => fun
  | [d1, d2] => { results := [.lit (.bool false)], args := [d1, d2] }
  | _ => none }
def MailboxCancelsWrongFalsely : Prop := mailboxCancelsRow.holds Try.pinned (OpenSpec.ofChange mailboxCancelsWrong)

/- THE SECOND FORM. 'bulk': how many values and letters a reading holds, each counted each time it is reached (what is shared counts as often as it is met; a slice's spare places count too). A statement '..UptoSaid' is the law's where the arguments, and the package variables that the reading takes, are together of bulk at most 1048576: NARROWER than '..Said'. Prove '..Said' where nothing that the law and all that it calls make is longer than what came in: it says more and counts as full. Else prove '..UptoSaid'. A law counts once. -/
mutual
def uptoBulk {H : Type} : DataW H → Nat
  | .lit (.string bytes) => bytes.length + 1
  | .lit _ => 1
  | .nil => 1
  | .ptr d => uptoBulk d + 1
  | .slice elems spare => uptoBulkAll elems + uptoBulkAll spare + 1
  | .agg parts => uptoBulkAll parts + 1
  | .iface _ d => uptoBulk d + 1
  | .map entries => uptoBulkEntries entries + 1
  | .held _ => 1
def uptoBulkAll {H : Type} : List (DataW H) → Nat
  | [] => 0
  | d :: r => uptoBulk d + uptoBulkAll r
def uptoBulkEntries {H : Type} : List (Lit × DataW H) → Nat
  | [] => 0
  | x :: r => uptoBulkEntry x + uptoBulkEntries r
def uptoBulkEntry {H : Type} : Lit × DataW H → Nat
  | (.string bytes, d) => bytes.length + uptoBulk d + 1
  | (_, d) => uptoBulk d + 1
 end
def uptoSmall : (H : Type) → List (DataW H) → Bool := fun _ ds => decide (uptoBulkAll ds ≤ 1048576)
def OpenSpec.upto (s : _root_.Go.ChangeSpec) : _root_.Go.OpenSpec := { _root_.Go.OpenSpec.ofChange s with cond := some uptoSmall }

/-- 'ropeladderlaw22.MailboxMatchesReference', WHERE WHAT IT READS IS OF BULK AT MOST 1048576: true; the input reads as it did. -/
def mailboxMatchesReferenceUptoRow : OpenClaim := { program := "ytdphbgnlmffgaaa", sum := "9150c5493e099dba1c4dc59d096ba6a7637379117c5724929191215c2f01f06b", func := "ropeladder/ropeladderlaw22.MailboxMatchesReference", spec := "mailboxMatchesReference", inPlace := ["slices.overlaps[ropeladder/api.SimEvent]"], unfollowed := true, recurses := true, apart := false, narrowed := true }
def MailboxMatchesReferenceUptoSaid : Prop := mailboxMatchesReferenceUptoRow.holds Try.pinned (OpenSpec.upto mailboxMatchesReferenceSpec)

/-- 'ropeladderlaw22.MailboxOrdered', WHERE WHAT IT READS IS OF BULK AT MOST 1048576: true; the input reads as it did. -/
def mailboxOrderedUptoRow : OpenClaim := { program := "ytdphbgnlmffgaaa", sum := "9150c5493e099dba1c4dc59d096ba6a7637379117c5724929191215c2f01f06b", func := "ropeladder/ropeladderlaw22.MailboxOrdered", spec := "mailboxOrdered", inPlace := ["slices.overlaps[ropeladder/api.SimEvent]"], unfollowed := true, recurses := true, apart := false, narrowed := true }
def MailboxOrderedUptoSaid : Prop := mailboxOrderedUptoRow.holds Try.pinned (OpenSpec.upto mailboxOrderedSpec)

/-- 'ropeladderlaw22.MailboxOneByOne', WHERE WHAT IT READS IS OF BULK AT MOST 1048576: true; the input reads as it did. -/
def mailboxOneByOneUptoRow : OpenClaim := { program := "ytdphbgnlmffgaaa", sum := "9150c5493e099dba1c4dc59d096ba6a7637379117c5724929191215c2f01f06b", func := "ropeladder/ropeladderlaw22.MailboxOneByOne", spec := "mailboxOneByOne", inPlace := ["slices.overlaps[ropeladder/api.SimEvent]"], unfollowed := true, recurses := true, apart := false, narrowed := true }
def MailboxOneByOneUptoSaid : Prop := mailboxOneByOneUptoRow.holds Try.pinned (OpenSpec.upto mailboxOneByOneSpec)

/-- 'ropeladderlaw22.MailboxDrains', WHERE WHAT IT READS IS OF BULK AT MOST 1048576: true; the input reads as it did. -/
def mailboxDrainsUptoRow : OpenClaim := { program := "ytdphbgnlmffgaaa", sum := "9150c5493e099dba1c4dc59d096ba6a7637379117c5724929191215c2f01f06b", func := "ropeladder/ropeladderlaw22.MailboxDrains", spec := "mailboxDrains", inPlace := ["slices.overlaps[ropeladder/api.SimEvent]"], unfollowed := true, recurses := true, apart := false, narrowed := true }
def MailboxDrainsUptoSaid : Prop := mailboxDrainsUptoRow.holds Try.pinned (OpenSpec.upto mailboxDrainsSpec)

/-- 'ropeladderlaw22.MailboxCancels', WHERE WHAT IT READS IS OF BULK AT MOST 1048576: true; the input reads as it did. -/
def mailboxCancelsUptoRow : OpenClaim := { program := "ytdphbgnlmffgaaa", sum := "9150c5493e099dba1c4dc59d096ba6a7637379117c5724929191215c2f01f06b", func := "ropeladder/ropeladderlaw22.MailboxCancels", spec := "mailboxCancels", inPlace := ["slices.overlaps[ropeladder/api.SimEvent]"], unfollowed := true, recurses := true, apart := false, narrowed := true }
def MailboxCancelsUptoSaid : Prop := mailboxCancelsUptoRow.holds Try.pinned (OpenSpec.upto mailboxCancelsSpec)

end Rows
end Go.Proofs.Ytdphbgnlmffgaaa
