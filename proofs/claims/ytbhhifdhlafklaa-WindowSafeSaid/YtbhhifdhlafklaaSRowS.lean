/- For every input WindowSafe returns true, and its arguments read as before. No conditions. -/
import Derived.Test.YtbhhifdhlafklaaGWS10
set_option linter.unusedSectionVars false
set_option linter.unusedSimpArgs false
set_option linter.unusedVariables false
namespace Go.Proofs.Ytbhhifdhlafklaa.K
open Go.Ev
open Go.ChangeShapes Go.WideShapes Go.ChangeAt Go.RowKit
set_option maxRecDepth 100000 in
theorem windowSafe_lifted (os : Os) (started : os.Started) (H : Type) (enc : TypeId × Value → H) :
    ReturnsInHanded {} Try.checked os 3 .any (Rows.windowSafeSpec.pre6 enc Try.prog Try.f3 Rows.windowSafeRow.domain false) (Rows.windowSafeSpec.post enc Try.prog Try.f3 false true false false) := by
  refine returnsInHanded_of_change (C := Try.checked) own started (by kernel_rfl) Try.func3
    (ChangeSpec.witness6 (enc := enc) (C := Try.checked) false ⟨#[], #[.agg #[.slice none 0 0, .slice none 0 0, .int .i64 0, .int .i64 0, .int .i64 0], .int .u8 0, .int .u8 0], []⟩ 8 (by kernel_rfl) (by kernel_rfl) (by kernel_rfl) (by kernel_rfl)) ?_
  intro W base args ds gs before hval hW hcnd _
  have hargs := q0j Try.underlying25 data_cfg (qxk Try.underlying5 rfl q7z (qxk Try.underlying5 rfl q7z (q4t (enc := enc))))
  refine q2v (P := Try.prog) (fn := Try.f3) (tb := 4) T_ok qky (by rw [Try.params3]) hargs ?_ rfl ?_ (by kernel_rfl) Try.underlying4 laid (by decide +kernel) W base args ds gs before hval hW
  · rintro ⟨c, a, b, _⟩ ⟨_, h1, h2, _⟩
    exact law_Safe c a b h1 h2
  · intro ds h
    match ds, h with
    | [_, _, _], _ => rfl
theorem windowSafe_over : Rows.windowSafeRow.holds Try.pinned (OpenSpec.ofChange Rows.windowSafeSpec) :=
  OpenClaim.holds_of_wide 3 Try.f3 rfl rfl rfl rfl rfl rfl rfl ⟨rfl, rfl, rfl, rfl, rfl⟩ rfl rfl rfl rfl rfl (by kernel_rfl) Try.func3 (by kernel_rfl)
    (of_decide_eq_true (by kernel_rfl)) (by unfold Func.isWrapper; first | (rw [if_pos (by decide +kernel)]; kernel_rfl) | (rw [if_neg (by decide +kernel)]; exact ⟨rfl, rfl⟩))
    (fun os started H enc _ => windowSafe_lifted os started H enc)
end Go.Proofs.Ytbhhifdhlafklaa.K
namespace Go.Proofs.Ytbhhifdhlafklaa
theorem windowSafe_holds : Rows.WindowSafeSaid := K.windowSafe_over
end Go.Proofs.Ytbhhifdhlafklaa
#print axioms Go.Proofs.Ytbhhifdhlafklaa.windowSafe_holds
