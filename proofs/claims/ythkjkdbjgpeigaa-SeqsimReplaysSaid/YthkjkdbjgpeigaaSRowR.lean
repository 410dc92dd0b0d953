/- For every input SeqsimReplays returns true, and its arguments read as before. No conditions. -/
import Derived.Test.YthkjkdbjgpeigaaGB10
set_option linter.unusedSectionVars false
set_option linter.unusedSimpArgs false
set_option linter.unusedVariables false
namespace Go.Proofs.Ythkjkdbjgpeigaa.K
open Go.Ev
open Go.ChangeShapes Go.WideShapes Go.ChangeAt Go.RowKit
set_option maxRecDepth 100000 in
theorem seqsimReplays_lifted (os : Os) (started : os.Started) (H : Type) (enc : TypeId × Value → H) :
    ReturnsInHanded {} Try.checked os 6 .any (Rows.seqsimReplaysSpec.pre6 enc Try.prog Try.f6 Rows.seqsimReplaysRow.domain false) (Rows.seqsimReplaysSpec.post enc Try.prog Try.f6 false true false false) := by
  refine returnsInHanded_of_change (C := Try.checked) own started (by kernel_rfl) Try.func6
    (ChangeSpec.witness6 (enc := enc) (C := Try.checked) false ⟨#[], #[.agg #[.slice none 0 0, .slice none 0 0, .int .i64 0, .int .i64 0, .int .i64 0], .int .u8 0], []⟩ 8 (by kernel_rfl) (by kernel_rfl) (by kernel_rfl) (by kernel_rfl)) ?_
  intro W base args ds gs before hval hW hcnd _
  have hargs := q2a Try.underlying25 data_cfg (q4n Try.underlying5 rfl data_u8 (q6e (enc := enc)))
  refine q3o (P := Try.prog) (fn := Try.f6) (tb := 4) T_ok qkb (by rw [Try.params6]) hargs ?_ rfl ?_ (by kernel_rfl) Try.underlying4 laid (by decide +kernel) W base args ds gs before hval hW
  · rintro ⟨c, a, _⟩ ⟨hi, h1, _⟩
    exact qul c a h1
  · intro ds h
    match ds, h with
    | [_, _], _ => rfl
theorem seqsimReplays_over : Rows.seqsimReplaysRow.holds Try.pinned (OpenSpec.ofChange Rows.seqsimReplaysSpec) :=
  OpenClaim.holds_of_wide 6 Try.f6 rfl rfl rfl rfl rfl rfl rfl ⟨rfl, rfl, rfl, rfl, rfl⟩ rfl rfl rfl rfl rfl (by kernel_rfl) Try.func6 (by kernel_rfl)
    (of_decide_eq_true (by kernel_rfl)) (by unfold Func.isWrapper; first | (rw [if_pos (by decide +kernel)]; kernel_rfl) | (rw [if_neg (by decide +kernel)]; exact ⟨rfl, rfl⟩))
    (fun os started H enc _ => seqsimReplays_lifted os started H enc)
end Go.Proofs.Ythkjkdbjgpeigaa.K
namespace Go.Proofs.Ythkjkdbjgpeigaa
theorem seqsimReplays_holds : Rows.SeqsimReplaysSaid := K.seqsimReplays_over
end Go.Proofs.Ythkjkdbjgpeigaa
#print axioms Go.Proofs.Ythkjkdbjgpeigaa.seqsimReplays_holds
