/- For every input RungInvariant returns true, and its arguments read as before. No conditions. -/
import Derived.Test.YtnmpkmakkniidaaSInv
import Derived.Test.YtnmpkmakkniidaaSLaw7
set_option linter.unusedSectionVars false
set_option linter.unusedSimpArgs false
set_option linter.unusedVariables false
namespace Go.Proofs.Ytnmpkmakkniidaa.K
open Go.Ev
open Go.ChangeShapes Go.WideShapes Go.ChangeAt Go.RowKit
set_option linter.unusedSimpArgs false
set_option linter.unusedVariables false

set_option maxRecDepth 100000 in
theorem rungInvariant_lifted (os : Os) (started : os.Started) (H : Type) (enc : TypeId × Value → H) :
    ReturnsInHanded {} Try.checked os 4 .any (Rows.rungInvariantSpec.pre6 enc Try.prog Try.f4 Rows.rungInvariantRow.domain false) (Rows.rungInvariantSpec.post enc Try.prog Try.f4 false true false false) := by
  refine returnsInHanded_of_change (C := Try.checked) own started (by kernel_rfl) Try.func4
    (ChangeSpec.witness6 (enc := enc) (C := Try.checked) false ⟨#[], #[.int .u64 0, .int .u64 0, .slice none 0 0, .agg #[.bool false, .int .u64 0, .int .i64 0]], []⟩ 8 (by kernel_rfl) (by kernel_rfl) (by kernel_rfl) (by kernel_rfl)) ?_
  intro W base args ds gs before hval hW hcnd _
  have hargs := isArgs_cell Try.underlying25 rfl data_u64 (isArgs_cell Try.underlying25 rfl data_u64 (isArgs_cell Try.underlying26 rfl data_ops (isArgs_struct Try.underlying28 data_op (isArgs_nil (enc := enc)))))
  refine contract_of (P := Try.prog) (fn := Try.f4) (tb := 4) T_ok code_law07_RungInvariant (by rw [Try.params4]) hargs ?_ rfl ?_ (by kernel_rfl) Try.underlying4 laid (by decide +kernel) W base args ds gs before hval hW
  · rintro ⟨x, y, l, o, _⟩ ⟨hx, hy, hl, ho, _⟩
    exact law_RungInvariant x y hx.1 hy.1 l false hl.1 o ho
  · intro ds h
    match ds, h with
    | [_, _, _, _], _ => rfl
theorem rungInvariant_over : Rows.rungInvariantRow.holds Try.pinned (OpenSpec.ofChange Rows.rungInvariantSpec) :=
  OpenClaim.holds_of_wide 4 Try.f4 rfl rfl rfl rfl rfl rfl rfl ⟨rfl, rfl, rfl, rfl, rfl⟩ rfl rfl rfl rfl rfl (by kernel_rfl) Try.func4 (by kernel_rfl)
    (of_decide_eq_true (by kernel_rfl)) (by unfold Func.isWrapper; first | (rw [if_pos (by decide +kernel)]; kernel_rfl) | (rw [if_neg (by decide +kernel)]; exact ⟨rfl, rfl⟩))
    (fun os started H enc _ => rungInvariant_lifted os started H enc)
end Go.Proofs.Ytnmpkmakkniidaa.K
namespace Go.Proofs.Ytnmpkmakkniidaa
theorem rungInvariant_holds : Rows.RungInvariantSaid := K.rungInvariant_over
end Go.Proofs.Ytnmpkmakkniidaa
#print axioms Go.Proofs.Ytnmpkmakkniidaa.rungInvariant_holds
