/- For every input ProgramBounds returns true, and its arguments read as before. No conditions. -/
import Derived.Test.YtbkabnhkclbepaaSBounds
import Derived.Test.YtbkabnhkclbepaaSData
set_option linter.unusedSectionVars false
set_option linter.unusedSimpArgs false
set_option linter.unusedVariables false
namespace Go.Proofs.Ytbkabnhkclbepaa.K
open Go.Ev
open Go.ChangeShapes Go.WideShapes Go.ChangeAt Go.RowKit
set_option linter.unusedSimpArgs false
set_option linter.unusedVariables false

set_option maxRecDepth 100000 in
theorem programBounds_lifted (os : Os) (started : os.Started) (H : Type) (enc : TypeId × Value → H) :
    ReturnsInHanded {} Try.checked os 4 .any (Rows.programBoundsSpec.pre6 enc Try.prog Try.f4 Rows.programBoundsRow.domain false) (Rows.programBoundsSpec.post enc Try.prog Try.f4 false true false false) := by
  refine returnsInHanded_of_change (C := Try.checked) own started (by kernel_rfl) Try.func4
    (ChangeSpec.witness6 (enc := enc) (C := Try.checked) false ⟨#[], #[.slice none 0 0, .int .u8 0, .int .u8 0, .int .i64 0, .int .u8 0], []⟩ 8 (by kernel_rfl) (by kernel_rfl) (by kernel_rfl) (by kernel_rfl)) ?_
  intro W base args ds gs before hval hW hcnd _
  have hargs := isArgs_cell Try.underlying22 rfl data_prog (isArgs_cell Try.underlying5 rfl data_u8 (isArgs_cell Try.underlying5 rfl data_u8 (isArgs_cell Try.underlying3 rfl data_int (isArgs_cell Try.underlying5 rfl data_u8 (isArgs_nil (enc := enc))))))
  refine contract_of (P := Try.prog) (fn := Try.f4) (tb := 4) T_ok code_law18_ProgramBounds (by rw [Try.params4]) hargs ?_ rfl ?_ (by kernel_rfl) Try.underlying4 laid (by decide +kernel) W base args ds gs before hval hW
  · rintro ⟨p, ps, lps, look, more, _⟩ ⟨_, h1, h2, _, h3, _⟩
    exact law_ProgramBounds p false ps lps look more h1 h2 h3
  · intro ds h
    match ds, h with
    | [_, _, _, _, _], _ => rfl
theorem programBounds_over : Rows.programBoundsRow.holds Try.pinned (OpenSpec.ofChange Rows.programBoundsSpec) :=
  OpenClaim.holds_of_wide 4 Try.f4 rfl rfl rfl rfl rfl rfl rfl ⟨rfl, rfl, rfl, rfl, rfl⟩ rfl rfl rfl rfl rfl (by kernel_rfl) Try.func4 (by kernel_rfl)
    (of_decide_eq_true (by kernel_rfl)) (by unfold Func.isWrapper; first | (rw [if_pos (by decide +kernel)]; kernel_rfl) | (rw [if_neg (by decide +kernel)]; exact ⟨rfl, rfl⟩))
    (fun os started H enc _ => programBounds_lifted os started H enc)
end Go.Proofs.Ytbkabnhkclbepaa.K
namespace Go.Proofs.Ytbkabnhkclbepaa
theorem programBounds_holds : Rows.ProgramBoundsSaid := K.programBounds_over
end Go.Proofs.Ytbkabnhkclbepaa
#print axioms Go.Proofs.Ytbkabnhkclbepaa.programBounds_holds
