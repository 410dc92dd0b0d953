/- For every input ProcessShifted returns true, and its arguments read as before. No conditions. -/
import Derived.Test.YtdpeepljabbcfaaSL6
import Derived.Test.YtdpeepljabbcfaaSData
set_option linter.unusedSectionVars false
set_option linter.unusedSimpArgs false
set_option linter.unusedVariables false
namespace Go.Proofs.Ytdpeepljabbcfaa.K
open Go.Ev
open Go.ChangeShapes Go.WideShapes Go.ChangeAt Go.RowKit
set_option linter.unusedSimpArgs false
set_option linter.unusedVariables false

set_option maxRecDepth 100000 in
theorem processShifted_lifted (os : Os) (started : os.Started) (H : Type) (enc : TypeId × Value → H) :
    ReturnsInHanded {} Try.checked os 8 .any (Rows.processShiftedSpec.pre6 enc Try.prog Try.f8 Rows.processShiftedRow.domain false) (Rows.processShiftedSpec.post enc Try.prog Try.f8 false true false false) := by
  refine returnsInHanded_of_change (C := Try.checked) own started (by kernel_rfl) Try.func8
    (ChangeSpec.witness6 (enc := enc) (C := Try.checked) false ⟨#[], #[.agg #[.slice none 0 0, .slice none 0 0, .int .i64 0, .int .i64 0, .int .i64 0], .agg #[.int .i64 0, .int .i64 0, .slice none 0 0, .int .i64 0], .agg #[.int .i64 0, .slice none 0 0, .int .i64 0, .int .i64 0, .int .i64 0, .int .i64 0], .int .u32 0], []⟩ 8 (by kernel_rfl) (by kernel_rfl) (by kernel_rfl) (by kernel_rfl)) ?_
  intro W base args ds gs before hval hW hcnd _
  have hargs := isArgs_struct Try.underlying25 data_cfg (isArgs_struct Try.underlying29 data_lp (isArgs_struct Try.underlying32 data_evt (isArgs_cell Try.underlying51 rfl data_u32 (isArgs_nil (enc := enc)))))
  refine contract_of (P := Try.prog) (fn := Try.f8) (tb := 4) T_ok code_law20_ProcessShifted (by rw [Try.params8]) hargs ?_ rfl ?_ (by kernel_rfl) Try.underlying4 laid (by decide +kernel) W base args ds gs before hval hW
  · rintro ⟨c, raw, r, b, _⟩ ⟨hi, h1, h2, h3, _⟩
    exact law_ProcessShifted c raw r b h3
  · intro ds h
    match ds, h with
    | [_, _, _, _], _ => rfl
theorem processShifted_over : Rows.processShiftedRow.holds Try.pinned (OpenSpec.ofChange Rows.processShiftedSpec) :=
  OpenClaim.holds_of_wide 8 Try.f8 rfl rfl rfl rfl rfl rfl rfl ⟨rfl, rfl, rfl, rfl, rfl⟩ rfl rfl rfl rfl rfl (by kernel_rfl) Try.func8 (by kernel_rfl)
    (of_decide_eq_true (by kernel_rfl)) (by unfold Func.isWrapper; first | (rw [if_pos (by decide +kernel)]; kernel_rfl) | (rw [if_neg (by decide +kernel)]; exact ⟨rfl, rfl⟩))
    (fun os started H enc _ => processShifted_lifted os started H enc)
end Go.Proofs.Ytdpeepljabbcfaa.K
namespace Go.Proofs.Ytdpeepljabbcfaa
theorem processShifted_holds : Rows.ProcessShiftedSaid := K.processShifted_over
end Go.Proofs.Ytdpeepljabbcfaa
#print axioms Go.Proofs.Ytdpeepljabbcfaa.processShifted_holds
