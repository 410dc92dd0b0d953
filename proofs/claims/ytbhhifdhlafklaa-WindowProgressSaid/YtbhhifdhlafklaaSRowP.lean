/- For every input WindowProgress returns true, and its arguments read as before. No conditions. -/
import Derived.Test.YtbhhifdhlafklaaGWP11
set_option linter.unusedSectionVars false
set_option linter.unusedSimpArgs false
set_option linter.unusedVariables false
namespace Go.Proofs.Ytbhhifdhlafklaa.K
open Go.Ev
open Go.ChangeShapes Go.WideShapes Go.ChangeAt Go.RowKit
set_option maxRecDepth 100000 in
theorem windowProgress_lifted (os : Os) (started : os.Started) (H : Type) (enc : TypeId × Value → H) :
  ReturnsInHanded {} Try.checked os 4 .any (Rows.windowProgressSpec.pre6 enc Try.prog Try.f4 Rows.windowProgressRow.domain false) (Rows.windowProgressSpec.post enc Try.prog Try.f4 false true false false) := by
 refine returnsInHanded_of_change (C := Try.checked) own started (by kernel_rfl) Try.func4
  (ChangeSpec.witness6 (enc := enc) (C := Try.checked) false ⟨#[], #[.agg #[.slice none 0 0, .slice none 0 0, .int .i64 0, .int .i64 0, .int .i64 0], .int .u8 0], []⟩ 8 (by kernel_rfl) (by kernel_rfl) (by kernel_rfl) (by kernel_rfl)) ?_
 intro W base args ds gs before hval hW hcnd _
 have hargs := q2j Try.underlying25 data_cfg (q5s Try.underlying5 rfl data_u8 (q8g (enc := enc)))
 refine q49 (P := Try.prog) (fn := Try.f4) (tb := 4) T_ok qkm (by rw [Try.params4]) hargs ?_ rfl ?_ (by kernel_rfl) Try.underlying4 laid (by decide +kernel) W base args ds gs before hval hW
 ·rintro ⟨c, a, _⟩ ⟨_, h1, _⟩
  exact q31 c a h1
 ·intro ds h
  match ds, h with
  | [_, _], _ => rfl
theorem windowProgress_over : Rows.windowProgressRow.holds Try.pinned (OpenSpec.ofChange Rows.windowProgressSpec) :=
 OpenClaim.holds_of_wide 4 Try.f4 rfl rfl rfl rfl rfl rfl rfl ⟨rfl, rfl, rfl, rfl, rfl⟩ rfl rfl rfl rfl rfl (by kernel_rfl) Try.func4 (by kernel_rfl)
  (of_decide_eq_true (by kernel_rfl)) (by unfold Func.isWrapper; first | (rw [if_pos (by decide +kernel)]; kernel_rfl) | (rw [if_neg (by decide +kernel)]; exact ⟨rfl, rfl⟩))
  (fun os started H enc _ => windowProgress_lifted os started H enc)
end Go.Proofs.Ytbhhifdhlafklaa.K
namespace Go.Proofs.Ytbhhifdhlafklaa
theorem windowProgress_holds : Rows.WindowProgressSaid := K.windowProgress_over
end Go.Proofs.Ytbhhifdhlafklaa
#print axioms Go.Proofs.Ytbhhifdhlafklaa.windowProgress_holds
