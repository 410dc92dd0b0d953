/- For every input ConfigMonotone returns true, and its arguments read as before. No conditions. -/
import Derived.Test.YtlcakphdkpdenaaSMono2
import Derived.Test.YtlcakphdkpdenaaSData
set_option linter.unusedSectionVars false
set_option linter.unusedSimpArgs false
set_option linter.unusedVariables false
namespace Go.Proofs.Ytlcakphdkpdenaa.K
open Go.Ev
open Go.ChangeShapes Go.WideShapes Go.ChangeAt Go.RowKit
set_option linter.unusedSimpArgs false
set_option linter.unusedVariables false

set_option maxRecDepth 100000 in
theorem configMonotone_lifted (os : Os) (started : os.Started) (H : Type) (enc : TypeId × Value → H) :
    ReturnsInHanded {} Try.checked os 5 .any (Rows.configMonotoneSpec.pre6 enc Try.prog Try.f5 Rows.configMonotoneRow.domain false) (Rows.configMonotoneSpec.post enc Try.prog Try.f5 false true false false) := by
  refine returnsInHanded_of_change (C := Try.checked) own started (by kernel_rfl) Try.func5
    (ChangeSpec.witness6 (enc := enc) (C := Try.checked) false ⟨#[], #[.agg #[.slice none 0 0, .slice none 0 0, .int .i64 0, .int .i64 0, .int .i64 0], .int .u8 0, .int .u8 0], []⟩ 8 (by kernel_rfl) (by kernel_rfl) (by kernel_rfl) (by kernel_rfl)) ?_
  intro W base args ds gs before hval hW hcnd _
  have hargs := isArgs_struct Try.underlying25 data_cfg (isArgs_cell Try.underlying5 rfl data_u8 (isArgs_cell Try.underlying5 rfl data_u8 (isArgs_nil (enc := enc))))
  refine contract_of (P := Try.prog) (fn := Try.f5) (tb := 4) T_ok code_law19_ConfigMonotone (by rw [Try.params5]) hargs ?_ rfl ?_ (by kernel_rfl) Try.underlying4 laid (by decide +kernel) W base args ds gs before hval hW
  · rintro ⟨c, less, more, _⟩ ⟨hi, h1, h2, _⟩
    exact law_ConfigMonotone c less more h1 h2 hi
  · intro ds h
    match ds, h with
    | [_, _, _], _ => rfl
theorem configMonotone_over : Rows.configMonotoneRow.holds Try.pinned (OpenSpec.ofChange Rows.configMonotoneSpec) :=
  OpenClaim.holds_of_wide 5 Try.f5 rfl rfl rfl rfl rfl rfl rfl ⟨rfl, rfl, rfl, rfl, rfl⟩ rfl rfl rfl rfl rfl (by kernel_rfl) Try.func5 (by kernel_rfl)
    (of_decide_eq_true (by kernel_rfl)) (by unfold Func.isWrapper; first | (rw [if_pos (by decide +kernel)]; kernel_rfl) | (rw [if_neg (by decide +kernel)]; exact ⟨rfl, rfl⟩))
    (fun os started H enc _ => configMonotone_lifted os started H enc)
end Go.Proofs.Ytlcakphdkpdenaa.K
namespace Go.Proofs.Ytlcakphdkpdenaa
theorem configMonotone_holds : Rows.ConfigMonotoneSaid := K.configMonotone_over
end Go.Proofs.Ytlcakphdkpdenaa
#print axioms Go.Proofs.Ytlcakphdkpdenaa.configMonotone_holds
