/- For every input ProgramClosed returns true, and its arguments read as before. No conditions. -/
import Derived.Test.YtbkabnhkclbepaaSClosed
import Derived.Test.YtbkabnhkclbepaaSData
set_option linter.unusedSectionVars false
set_option linter.unusedSimpArgs false
set_option linter.unusedVariables false
namespace Go.Proofs.Ytbkabnhkclbepaa.K
open Go.Ev
open Go.ChangeShapes Go.WideShapes Go.ChangeAt Go.RowKit
set_option linter.unusedSimpArgs false
set_option linter.unusedVariables false

set_option maxRecDepth 100000 in
theorem programClosed_lifted (os : Os) (started : os.Started) (H : Type) (enc : TypeId × Value → H) :
    ReturnsInHanded {} Try.checked os 3 .any (Rows.programClosedSpec.pre6 enc Try.prog Try.f3 Rows.programClosedRow.domain false) (Rows.programClosedSpec.post enc Try.prog Try.f3 false true false false) := by
  refine returnsInHanded_of_change (C := Try.checked) own started (by kernel_rfl) Try.func3
    (ChangeSpec.witness6 (enc := enc) (C := Try.checked) false ⟨#[], #[.slice none 0 0], []⟩ 8 (by kernel_rfl) (by kernel_rfl) (by kernel_rfl) (by kernel_rfl)) ?_
  intro W base args ds gs before hval hW hcnd _
  have hargs := isArgs_cell Try.underlying22 rfl data_prog (isArgs_nil (enc := enc))
  refine contract_of (P := Try.prog) (fn := Try.f3) (tb := 4) T_ok code_law18_ProgramClosed (by rw [Try.params3]) hargs ?_ rfl ?_ (by kernel_rfl) Try.underlying4 laid (by decide +kernel) W base args ds gs before hval hW
  · rintro ⟨p, _⟩ ⟨_, _⟩
    exact law_ProgramClosed p false
  · intro ds h
    match ds, h with
    | [_], _ => rfl
theorem programClosed_over : Rows.programClosedRow.holds Try.pinned (OpenSpec.ofChange Rows.programClosedSpec) :=
  OpenClaim.holds_of_wide 3 Try.f3 rfl rfl rfl rfl rfl rfl rfl ⟨rfl, rfl, rfl, rfl, rfl⟩ rfl rfl rfl rfl rfl (by kernel_rfl) Try.func3 (by kernel_rfl)
    (of_decide_eq_true (by kernel_rfl)) (by unfold Func.isWrapper; first | (rw [if_pos (by decide +kernel)]; kernel_rfl) | (rw [if_neg (by decide +kernel)]; exact ⟨rfl, rfl⟩))
    (fun os started H enc _ => programClosed_lifted os started H enc)
end Go.Proofs.Ytbkabnhkclbepaa.K
namespace Go.Proofs.Ytbkabnhkclbepaa
theorem programClosed_holds : Rows.ProgramClosedSaid := K.programClosed_over
end Go.Proofs.Ytbkabnhkclbepaa
#print axioms Go.Proofs.Ytbkabnhkclbepaa.programClosed_holds
