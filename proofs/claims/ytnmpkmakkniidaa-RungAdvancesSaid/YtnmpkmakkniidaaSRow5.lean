/- For every input RungAdvances returns true, and its arguments read as before. No conditions. -/
import Derived.Test.YtnmpkmakkniidaaSAdv
import Derived.Test.YtnmpkmakkniidaaSLaw7
set_option linter.unusedSectionVars false
set_option linter.unusedSimpArgs false
set_option linter.unusedVariables false
namespace Go.Proofs.Ytnmpkmakkniidaa.K
open Go.Ev
open Go.ChangeShapes Go.WideShapes Go.ChangeAt Go.RowKit
set_option linter.unusedSimpArgs false
set_option linter.unusedVariables false

set_option maxRecDepth 100000 in
theorem rungAdvances_lifted (os : Os) (started : os.Started) (H : Type) (enc : TypeId × Value → H) :
    ReturnsInHanded {} Try.checked os 7 .any (Rows.rungAdvancesSpec.pre6 enc Try.prog Try.f7 Rows.rungAdvancesRow.domain false) (Rows.rungAdvancesSpec.post enc Try.prog Try.f7 false true false false) := by
  refine returnsInHanded_of_change (C := Try.checked) own started (by kernel_rfl) Try.func7
    (ChangeSpec.witness6 (enc := enc) (C := Try.checked) false ⟨#[], #[.int .u64 0, .int .u64 0, .slice none 0 0, .int .u64 0], []⟩ 8 (by kernel_rfl) (by kernel_rfl) (by kernel_rfl) (by kernel_rfl)) ?_
  intro W base args ds gs before hval hW hcnd _
  have hargs := isArgs_cell Try.underlying25 rfl data_u64 (isArgs_cell Try.underlying25 rfl data_u64 (isArgs_cell Try.underlying26 rfl data_ops (isArgs_cell Try.underlying25 rfl data_u64 (isArgs_nil (enc := enc)))))
  refine contract_of (P := Try.prog) (fn := Try.f7) (tb := 4) T_ok code_law07_RungAdvances (by rw [Try.params7]) hargs ?_ rfl ?_ (by kernel_rfl) Try.underlying4 laid (by decide +kernel) W base args ds gs before hval hW
  · rintro ⟨x, y, l, a, _⟩ ⟨hx, hy, hl, ha, _⟩
    exact law_RungAdvances x y hx.1 hy.1 l false hl.1 a ha
  · intro ds h
    match ds, h with
    | [_, _, _, _], _ => rfl
theorem rungAdvances_over : Rows.rungAdvancesRow.holds Try.pinned (OpenSpec.ofChange Rows.rungAdvancesSpec) :=
  OpenClaim.holds_of_wide 7 Try.f7 rfl rfl rfl rfl rfl rfl rfl ⟨rfl, rfl, rfl, rfl, rfl⟩ rfl rfl rfl rfl rfl (by kernel_rfl) Try.func7 (by kernel_rfl)
    (of_decide_eq_true (by kernel_rfl)) (by unfold Func.isWrapper; first | (rw [if_pos (by decide +kernel)]; kernel_rfl) | (rw [if_neg (by decide +kernel)]; exact ⟨rfl, rfl⟩))
    (fun os started H enc _ => rungAdvances_lifted os started H enc)
end Go.Proofs.Ytnmpkmakkniidaa.K
namespace Go.Proofs.Ytnmpkmakkniidaa
theorem rungAdvances_holds : Rows.RungAdvancesSaid := K.rungAdvances_over
end Go.Proofs.Ytnmpkmakkniidaa
#print axioms Go.Proofs.Ytnmpkmakkniidaa.rungAdvances_holds
