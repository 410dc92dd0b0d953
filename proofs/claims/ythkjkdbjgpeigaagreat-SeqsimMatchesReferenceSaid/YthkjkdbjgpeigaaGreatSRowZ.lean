/- For every input SeqsimMatchesReference returns true, and its arguments read as before. No conditions. -/
import Derived.Test.YthkjkdbjgpeigaaGreatGB10
import Derived.Test.YthkjkdbjgpeigaaGreatGB11
set_option linter.unusedSectionVars false
set_option linter.unusedSimpArgs false
set_option linter.unusedVariables false
namespace Go.Proofs.YthkjkdbjgpeigaaGreat.K
open Go.Ev
open Go.ChangeShapes Go.WideShapes Go.ChangeAt Go.RowKit
set_option maxRecDepth 100000 in
theorem seqsimMatchesReference_lifted (os : Os) (started : os.Started) (H : Type) (enc : TypeId × Value → H) :
    ReturnsInHanded {} Tryz.checked os 3 .any (Rows.seqsimMatchesReferenceSpec.pre6 enc Tryz.prog Tryz.f3 Rows.seqsimMatchesReferenceRow.domain false) (Rows.seqsimMatchesReferenceSpec.post enc Tryz.prog Tryz.f3 false true false false) := by
  refine returnsInHanded_of_change (C := Tryz.checked) own started (by kernel_rfl) Tryz.func3
    (ChangeSpec.witness6 (enc := enc) (C := Tryz.checked) false ⟨#[], #[.agg #[.slice none 0 0, .slice none 0 0, .int .i64 0, .int .i64 0, .int .i64 0], .int .u8 0], []⟩ 8 (by kernel_rfl) (by kernel_rfl) (by kernel_rfl) (by kernel_rfl)) ?_
  intro W base args ds gs before hval hW hcnd _
  have hargs := q4w Tryz.underlying25 data_cfg (q6w Tryz.underlying5 rfl data_u8 (q9i (enc := enc)))
  refine q6m (P := Tryz.prog) (fn := Tryz.f3) (tb := 4) T_ok qhw (by rw [Tryz.params3]) hargs ?_ rfl ?_ (by kernel_rfl) Tryz.underlying4 laid (by decide +kernel) W base args ds gs before hval hW
  · rintro ⟨c, a, _⟩ ⟨hi, h1, _⟩
    exact qpl c a h1
  · intro ds h
    match ds, h with
    | [_, _], _ => rfl
theorem seqsimMatchesReference_over : Rows.seqsimMatchesReferenceRow.holds Tryz.pinned (OpenSpec.ofChange Rows.seqsimMatchesReferenceSpec) :=
  OpenClaim.holds_of_wide 3 Tryz.f3 rfl rfl rfl rfl rfl rfl rfl ⟨rfl, rfl, rfl, rfl, rfl⟩ rfl rfl rfl rfl rfl (by kernel_rfl) Tryz.func3 (by kernel_rfl)
    (of_decide_eq_true (by kernel_rfl)) (by unfold Func.isWrapper; first | (rw [if_pos (by decide +kernel)]; kernel_rfl) | (rw [if_neg (by decide +kernel)]; exact ⟨rfl, rfl⟩))
    (fun os started H enc _ => seqsimMatchesReference_lifted os started H enc)
end Go.Proofs.YthkjkdbjgpeigaaGreat.K
namespace Go.Proofs.YthkjkdbjgpeigaaGreat
theorem seqsimMatchesReference_holds : Rows.SeqsimMatchesReferenceSaid := K.seqsimMatchesReference_over
end Go.Proofs.YthkjkdbjgpeigaaGreat
#print axioms Go.Proofs.YthkjkdbjgpeigaaGreat.seqsimMatchesReference_holds
