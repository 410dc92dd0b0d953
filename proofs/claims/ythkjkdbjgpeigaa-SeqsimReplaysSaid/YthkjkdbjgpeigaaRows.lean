/-
  No cell of these rows narrows 'for every input' (looked for: loops, veiled, ifaces, maps, wideKeys, modest, calm, conditions, laid).
  DERIVED. THE GIVEN ROWS OF THIS SEAT. 5 by the template 'for every input the law returns true; each argument reads behind the call as it read before'; 0 by the template 'total and deterministic' (their statements: YthkjkdbjgpeigaaTotals.lean).
  GIVEN WITH THE SEED: the statements are not yours to turn. If you find one false, say at which input.
  Laid BY PROGRAM, IN A SANDBOX (cutbox-rows.mjs): the forced cells as the released guide's own fill.sh prints them over the translation 62acaf5cacb4f850… (all of the seat's roots in one cut). By AI agents, Wed Nov 11 2026. No macro, syntax, notation, axiom, sorry.
-/
import Derived.Test.YthkjkdbjgpeigaaChecked
import GoSem.Claim
import GoSem.ClaimJoined
import GoSem.ClaimMapViews
import Derived.JoinedTies
import Derived.KernelRfl
namespace Go.Proofs.Ythkjkdbjgpeigaa
/- THE CELL 'sum', in the pinned program and in every row, IS THE sha256 OF THE DUMP (.gsa) THAT YthkjkdbjgpeigaaProg.lean LOADS. Nothing in Lean hashes anything: it is a label: what it is worth is what the hold of that sum in a sandbox is worth. -/
noncomputable def Try.pinned : Pinned := { name := "ythkjkdbjgpeigaa", sum := "62acaf5cacb4f850c26eb23bba73ff1892316de9cadfc09845546c572de87d25", checked := Try.checked }
namespace Rows
def none {H : Type} : Left H := { results := [], args := [] }

/-- 'ropeladderlaw21.SeqsimOrdered': WHATEVER THE INPUT: true; the input reads as it did. -/
def seqsimOrderedSpec : ChangeSpec := { name := "seqsimOrdered", fn := fun _ => fun
  | [d1, d2] => { results := [.lit (.bool true)], args := [d1, d2] }
  | _ => none }
def seqsimOrderedRow : OpenClaim := { program := "ythkjkdbjgpeigaa", sum := "62acaf5cacb4f850c26eb23bba73ff1892316de9cadfc09845546c572de87d25", func := "ropeladder/ropeladderlaw21.SeqsimOrdered", spec := "seqsimOrdered", unfollowed := true, recurses := true, apart := false }
def SeqsimOrderedSaid : Prop := seqsimOrderedRow.holds Try.pinned (OpenSpec.ofChange seqsimOrderedSpec)

/-- ITS FALSE NEIGHBOUR: 'it returns false'. Refute it at one input. -/
def seqsimOrderedWrong : ChangeSpec := { name := "seqsimOrdered", fn := fun _ => fun
  | [d1, d2] => { results := [.lit (.bool false)], args := [d1, d2] }
  | _ => none }
def SeqsimOrderedWrongFalsely : Prop := seqsimOrderedRow.holds Try.pinned (OpenSpec.ofChange seqsimOrderedWrong)

/-- 'ropeladderlaw21.SeqsimPrefix': WHATEVER THE INPUT: true; the input reads as it did. -/
def seqsimPrefixSpec : ChangeSpec := { name := "seqsimPrefix", fn := fun _ => fun
  | [d1, d2, d3] => { results := [.lit (.bool true)], args := [d1, d2, d3] }
  | _ => none }
def seqsimPrefixRow : OpenClaim := { program := "ythkjkdbjgpeigaa", sum := "62acaf5cacb4f850c26eb23bba73ff1892316de9cadfc09845546c572de87d25", func := "ropeladder/ropeladderlaw21.SeqsimPrefix", spec := "seqsimPrefix", unfollowed := true, recurses := true, apart := false }
def SeqsimPrefixSaid : Prop := seqsimPrefixRow.holds Try.pinned (OpenSpec.ofChange seqsimPrefixSpec)

/-- ITS FALSE NEIGHBOUR: 'it returns false'. Refute it at one input. -/
def seqsimPrefixWrong : ChangeSpec := { name := "seqsimPrefix", fn := fun _ => fun
  | [d1, d2, d3] => { results := [.lit (.bool false)], args := [d1, d2, d3] }
  | _ => none }
def SeqsimPrefixWrongFalsely : Prop := seqsimPrefixRow.holds Try.pinned (OpenSpec.ofChange seqsimPrefixWrong)

/-- 'ropeladderlaw21.SeqsimCausal': WHATEVER THE INPUT: true; the input reads as it did. -/
def seqsimCausalSpec : ChangeSpec := { name := "seqsimCausal", fn := fun _ => fun
  | [d1, d2] => { results := [.lit (.bool true)], args := [d1, d2] }
  | _ => none }
def seqsimCausalRow : OpenClaim := { program := "ythkjkdbjgpeigaa", sum := "62acaf5cacb4f850c26eb23bba73ff1892316de9cadfc09845546c572de87d25", func := "ropeladder/ropeladderlaw21.SeqsimCausal", spec := "seqsimCausal", unfollowed := true, recurses := true, apart := false }
def SeqsimCausalSaid : Prop := seqsimCausalRow.holds Try.pinned (OpenSpec.ofChange seqsimCausalSpec)

/-- ITS FALSE NEIGHBOUR: 'it returns false'. Refute it at one input. -/
def seqsimCausalWrong : ChangeSpec := { name := "seqsimCausal", fn := fun _ => fun
  | [d1, d2] => { results := [.lit (.bool false)], args := [d1, d2] }
  | _ => none }
def SeqsimCausalWrongFalsely : Prop := seqsimCausalRow.holds Try.pinned (OpenSpec.ofChange seqsimCausalWrong)

/-- 'ropeladderlaw21.SeqsimReplays': WHATEVER THE INPUT: true; the input reads as it did. -/
def seqsimReplaysSpec : ChangeSpec := { name := "seqsimReplays", fn := fun _ => fun
  | [d1, d2] => { results := [.lit (.bool true)], args := [d1, d2] }
  | _ => none }
def seqsimReplaysRow : OpenClaim := { program := "ythkjkdbjgpeigaa", sum := "62acaf5cacb4f850c26eb23bba73ff1892316de9cadfc09845546c572de87d25", func := "ropeladder/ropeladderlaw21.SeqsimReplays", spec := "seqsimReplays", unfollowed := true, recurses := true, apart := false }
def SeqsimReplaysSaid : Prop := seqsimReplaysRow.holds Try.pinned (OpenSpec.ofChange seqsimReplaysSpec)

/-- ITS FALSE NEIGHBOUR: 'it returns false'. Refute it at one input. -/
def seqsimReplaysWrong : ChangeSpec := { name := "seqsimReplays", fn := fun _ => fun
  | [d1, d2] => { results := [.lit (.bool false)], args := [d1, d2] }
  | _ => none }
def SeqsimReplaysWrongFalsely : Prop := seqsimReplaysRow.holds Try.pinned (OpenSpec.ofChange seqsimReplaysWrong)

/-- 'ropeladderlaw21.SeqsimRemaining': WHATEVER THE INPUT: true; the input reads as it did. -/
def seqsimRemainingSpec : ChangeSpec := { name := "seqsimRemaining", fn := fun _ => fun
  | [d1, d2] => { results := [.lit (.bool true)], args := [d1, d2] }
  | _ => none }
def seqsimRemainingRow : OpenClaim := { program := "ythkjkdbjgpeigaa", sum := "62acaf5cacb4f850c26eb23bba73ff1892316de9cadfc09845546c572de87d25", func := "ropeladder/ropeladderlaw21.SeqsimRemaining", spec := "seqsimRemaining", unfollowed := true, recurses := true, apart := false }
def SeqsimRemainingSaid : Prop := seqsimRemainingRow.holds Try.pinned (OpenSpec.ofChange seqsimRemainingSpec)

/-- ITS FALSE NEIGHBOUR: 'it returns false'. Refute it at one input. -/
def seqsimRemainingWrong : ChangeSpec := { name := "seqsimRemaining", fn := fun _ => fun
  | [d1, d2] => { results := [.lit (.bool false)], args := [d1, d2] }
  | _ => none }
def SeqsimRemainingWrongFalsely : Prop := seqsimRemainingRow.holds Try.pinned (OpenSpec.ofChange seqsimRemainingWrong)

/- THE SECOND FORM. 'bulk': how many values and letters a reading holds, each counted each time it is reached (what is shared counts as often as it is met; a slice's spare places count too). A statement '..UptoSaid' is the law's where the arguments, and the package variables that the reading takes, are together of bulk at most 1048576: NARROWER than '..Said'. Prove '..Said' where nothing that the law and all that it calls make is longer than what came in: it says more and counts as full. Else prove '..UptoSaid'. A law counts once. -/
mutual
def uptoBulk {H : Type} : DataW H → Nat
  | .lit (.string bytes) => bytes.length + 1
  | .lit _ => 1
  | .nil => 1
  | .ptr d => uptoBulk d + 1
  | .slice elems spare => uptoBulkAll elems + uptoBulkAll spare + 1
  | .agg parts => uptoBulkAll parts + 1
  | .iface _ d => uptoBulk d + 1
  | .map entries => uptoBulkEntries entries + 1
  | .held _ => 1
def uptoBulkAll {H : Type} : List (DataW H) → Nat
  | [] => 0
  | d :: r => uptoBulk d + uptoBulkAll r
def uptoBulkEntries {H : Type} : List (Lit × DataW H) → Nat
  | [] => 0
  | x :: r => uptoBulkEntry x + uptoBulkEntries r
def uptoBulkEntry {H : Type} : Lit × DataW H → Nat
  | (.string bytes, d) => bytes.length + uptoBulk d + 1
  | (_, d) => uptoBulk d + 1
 end
def uptoSmall : (H : Type) → List (DataW H) → Bool := fun _ ds => decide (uptoBulkAll ds ≤ 1048576)
def OpenSpec.upto (s : _root_.Go.ChangeSpec) : _root_.Go.OpenSpec := { _root_.Go.OpenSpec.ofChange s with cond := some uptoSmall }

/-- 'ropeladderlaw21.SeqsimOrdered', WHERE WHAT IT READS IS OF BULK AT MOST 1048576: true; the input reads as it did. -/
def seqsimOrderedUptoRow : OpenClaim := { program := "ythkjkdbjgpeigaa", sum := "62acaf5cacb4f850c26eb23bba73ff1892316de9cadfc09845546c572de87d25", func := "ropeladder/ropeladderlaw21.SeqsimOrdered", spec := "seqsimOrdered", unfollowed := true, recurses := true, apart := false, narrowed := true }
def SeqsimOrderedUptoSaid : Prop := seqsimOrderedUptoRow.holds Try.pinned (OpenSpec.upto seqsimOrderedSpec)

/-- 'ropeladderlaw21.SeqsimPrefix', WHERE WHAT IT READS IS OF BULK AT MOST 1048576: true; the input reads as it did. -/
def seqsimPrefixUptoRow : OpenClaim := { program := "ythkjkdbjgpeigaa", sum := "62acaf5cacb4f850c26eb23bba73ff1892316de9cadfc09845546c572de87d25", func := "ropeladder/ropeladderlaw21.SeqsimPrefix", spec := "seqsimPrefix", unfollowed := true, recurses := true, apart := false, narrowed := true }
def SeqsimPrefixUptoSaid : Prop := seqsimPrefixUptoRow.holds Try.pinned (OpenSpec.upto seqsimPrefixSpec)

/-- 'ropeladderlaw21.SeqsimCausal', WHERE WHAT IT READS IS OF BULK AT MOST 1048576: true; the input reads as it did. -/
def seqsimCausalUptoRow : OpenClaim := { program := "ythkjkdbjgpeigaa", sum := "62acaf5cacb4f850c26eb23bba73ff1892316de9cadfc09845546c572de87d25", func := "ropeladder/ropeladderlaw21.SeqsimCausal", spec := "seqsimCausal", unfollowed := true, recurses := true, apart := false, narrowed := true }
def SeqsimCausalUptoSaid : Prop := seqsimCausalUptoRow.holds Try.pinned (OpenSpec.upto seqsimCausalSpec)

/-- 'ropeladderlaw21.SeqsimReplays', WHERE WHAT IT READS IS OF BULK AT MOST 1048576: true; the input reads as it did. -/
def seqsimReplaysUptoRow : OpenClaim := { program := "ythkjkdbjgpeigaa", sum := "62acaf5cacb4f850c26eb23bba73ff1892316de9cadfc09845546c572de87d25", func := "ropeladder/ropeladderlaw21.SeqsimReplays", spec := "seqsimReplays", unfollowed := true, recurses := true, apart := false, narrowed := true }
def SeqsimReplaysUptoSaid : Prop := seqsimReplaysUptoRow.holds Try.pinned (OpenSpec.upto seqsimReplaysSpec)

/-- 'ropeladderlaw21.SeqsimRemaining', WHERE WHAT IT READS IS OF BULK AT MOST 1048576: true; the input reads as it did. -/
def seqsimRemainingUptoRow : OpenClaim := { program := "ythkjkdbjgpeigaa", sum := "62acaf5cacb4f850c26eb23bba73ff1892316de9cadfc09845546c572de87d25", func := "ropeladder/ropeladderlaw21.SeqsimRemaining", spec := "seqsimRemaining", unfollowed := true, recurses := true, apart := false, narrowed := true }
def SeqsimRemainingUptoSaid : Prop := seqsimRemainingUptoRow.holds Try.pinned (OpenSpec.upto seqsimRemainingSpec)

end Rows
end Go.Proofs.Ythkjkdbjgpeigaa
