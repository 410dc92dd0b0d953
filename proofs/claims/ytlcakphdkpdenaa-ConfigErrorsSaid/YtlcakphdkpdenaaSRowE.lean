/- For every input ConfigErrors returns true, and its arguments read as before. No conditions. -/
import Derived.Test.YtlcakphdkpdenaaSErr2
import Derived.Test.YtlcakphdkpdenaaSData
set_option linter.unusedSectionVars false
set_option linter.unusedSimpArgs false
set_option linter.unusedVariables false
namespace Go.Proofs.Ytlcakphdkpdenaa.K
open Go.Ev
open Go.ChangeShapes Go.WideShapes Go.ChangeAt Go.RowKit
set_option linter.unusedSimpArgs false
set_option linter.unusedVariables false

set_option maxRecDepth 100000 in
theorem configErrors_lifted (os : Os) (started : os.Started) (H : Type) (enc : TypeId × Value → H) :
    ReturnsInHanded {} Try.checked os 6 .any (Rows.configErrorsSpec.pre6 enc Try.prog Try.f6 Rows.configErrorsRow.domain false) (Rows.configErrorsSpec.post enc Try.prog Try.f6 false true false false) := by
  refine returnsInHanded_of_change (C := Try.checked) own started (by kernel_rfl) Try.func6
    (ChangeSpec.witness6 (enc := enc) (C := Try.checked) false ⟨#[], #[.agg #[.slice none 0 0, .slice none 0 0, .int .i64 0, .int .i64 0, .int .i64 0], .int .u8 0, .int .u8 0], []⟩ 8 (by kernel_rfl) (by kernel_rfl) (by kernel_rfl) (by kernel_rfl)) ?_
  intro W base args ds gs before hval hW hcnd _
  have hargs := isArgs_struct Try.underlying25 data_cfg (isArgs_cell Try.underlying5 rfl data_u8 (isArgs_cell Try.underlying5 rfl data_u8 (isArgs_nil (enc := enc))))
  refine contract_of (P := Try.prog) (fn := Try.f6) (tb := 4) T_ok code_law19_ConfigErrors (by rw [Try.params6]) hargs ?_ rfl ?_ (by kernel_rfl) Try.underlying4 laid (by decide +kernel) W base args ds gs before hval hW
  · rintro ⟨c, what, at_, _⟩ ⟨hi, h1, h2, _⟩
    exact law_ConfigErrors c what at_ h1 h2
  · intro ds h
    match ds, h with
    | [_, _, _], _ => rfl
theorem configErrors_over : Rows.configErrorsRow.holds Try.pinned (OpenSpec.ofChange Rows.configErrorsSpec) :=
  OpenClaim.holds_of_wide 6 Try.f6 rfl rfl rfl rfl rfl rfl rfl ⟨rfl, rfl, rfl, rfl, rfl⟩ rfl rfl rfl rfl rfl (by kernel_rfl) Try.func6 (by kernel_rfl)
    (of_decide_eq_true (by kernel_rfl)) (by unfold Func.isWrapper; first | (rw [if_pos (by decide +kernel)]; kernel_rfl) | (rw [if_neg (by decide +kernel)]; exact ⟨rfl, rfl⟩))
    (fun os started H enc _ => configErrors_lifted os started H enc)
end Go.Proofs.Ytlcakphdkpdenaa.K
namespace Go.Proofs.Ytlcakphdkpdenaa
theorem configErrors_holds : Rows.ConfigErrorsSaid := K.configErrors_over
end Go.Proofs.Ytlcakphdkpdenaa
#print axioms Go.Proofs.Ytlcakphdkpdenaa.configErrors_holds
