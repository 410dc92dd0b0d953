/- For every input ProcessDead returns true, and its arguments read as before. No conditions. -/
import Derived.Test.YtdpeepljabbcfaaSL1
import Derived.Test.YtdpeepljabbcfaaSData
set_option linter.unusedSectionVars false
set_option linter.unusedSimpArgs false
set_option linter.unusedVariables false
namespace Go.Proofs.Ytdpeepljabbcfaa.K
open Go.Ev
open Go.ChangeShapes Go.WideShapes Go.ChangeAt Go.RowKit
set_option linter.unusedSimpArgs false
set_option linter.unusedVariables false

set_option maxRecDepth 100000 in
theorem processDead_lifted (os : Os) (started : os.Started) (H : Type) (enc : TypeId × Value → H) :
    ReturnsInHanded {} Try.checked os 7 .any (Rows.processDeadSpec.pre6 enc Try.prog Try.f7 Rows.processDeadRow.domain false) (Rows.processDeadSpec.post enc Try.prog Try.f7 false true false false) := by
  refine returnsInHanded_of_change (C := Try.checked) own started (by kernel_rfl) Try.func7
    (ChangeSpec.witness6 (enc := enc) (C := Try.checked) false ⟨#[], #[.agg #[.slice none 0 0, .slice none 0 0, .int .i64 0, .int .i64 0, .int .i64 0], .agg #[.int .i64 0, .int .i64 0, .slice none 0 0, .int .i64 0], .agg #[.int .i64 0, .slice none 0 0, .int .i64 0, .int .i64 0, .int .i64 0, .int .i64 0]], []⟩ 8 (by kernel_rfl) (by kernel_rfl) (by kernel_rfl) (by kernel_rfl)) ?_
  intro W base args ds gs before hval hW hcnd _
  have hargs := isArgs_struct Try.underlying25 data_cfg (isArgs_struct Try.underlying29 data_lp (isArgs_struct Try.underlying32 data_evt (isArgs_nil (enc := enc))))
  refine contract_of (P := Try.prog) (fn := Try.f7) (tb := 4) T_ok code_law20_ProcessDead (by rw [Try.params7]) hargs ?_ rfl ?_ (by kernel_rfl) Try.underlying4 laid (by decide +kernel) W base args ds gs before hval hW
  · rintro ⟨c, raw, r, _⟩ ⟨hi, h1, h2, _⟩
    exact law_ProcessDead c raw r
  · intro ds h
    match ds, h with
    | [_, _, _], _ => rfl
theorem processDead_over : Rows.processDeadRow.holds Try.pinned (OpenSpec.ofChange Rows.processDeadSpec) :=
  OpenClaim.holds_of_wide 7 Try.f7 rfl rfl rfl rfl rfl rfl rfl ⟨rfl, rfl, rfl, rfl, rfl⟩ rfl rfl rfl rfl rfl (by kernel_rfl) Try.func7 (by kernel_rfl)
    (of_decide_eq_true (by kernel_rfl)) (by unfold Func.isWrapper; first | (rw [if_pos (by decide +kernel)]; kernel_rfl) | (rw [if_neg (by decide +kernel)]; exact ⟨rfl, rfl⟩))
    (fun os started H enc _ => processDead_lifted os started H enc)
end Go.Proofs.Ytdpeepljabbcfaa.K
namespace Go.Proofs.Ytdpeepljabbcfaa
theorem processDead_holds : Rows.ProcessDeadSaid := K.processDead_over
end Go.Proofs.Ytdpeepljabbcfaa
#print axioms Go.Proofs.Ytdpeepljabbcfaa.processDead_holds
