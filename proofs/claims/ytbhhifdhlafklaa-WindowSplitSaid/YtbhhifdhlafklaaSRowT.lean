/- For every input WindowSplit returns true, and its arguments read as before. No conditions. -/
import Derived.Test.YtbhhifdhlafklaaGWT10
set_option linter.unusedSectionVars false
set_option linter.unusedSimpArgs false
set_option linter.unusedVariables false
namespace Go.Proofs.Ytbhhifdhlafklaa.K
open Go.Ev
open Go.ChangeShapes Go.WideShapes Go.ChangeAt Go.RowKit
set_option maxRecDepth 100000 in
theorem windowSplit_lifted (os : Os) (started : os.Started) (H : Type) (enc : TypeId × Value → H) :
    ReturnsInHanded {} Try.checked os 5 .any (Rows.windowSplitSpec.pre6 enc Try.prog Try.f5 Rows.windowSplitRow.domain false) (Rows.windowSplitSpec.post enc Try.prog Try.f5 false true false false) := by
  refine returnsInHanded_of_change (C := Try.checked) own started (by kernel_rfl) Try.func5
    (ChangeSpec.witness6 (enc := enc) (C := Try.checked) false ⟨#[], #[.agg #[.slice none 0 0, .slice none 0 0, .int .i64 0, .int .i64 0, .int .i64 0], .int .u8 0, .int .u8 0, .int .u16 0], []⟩ 8 (by kernel_rfl) (by kernel_rfl) (by kernel_rfl) (by kernel_rfl)) ?_
  intro W base args ds gs before hval hW hcnd _
  have hargs := q0t Try.underlying25 data_cfg (qrz Try.underlying5 rfl q74 (qrz Try.underlying5 rfl q74 (qrz Try.underlying50 rfl data_u16 (q6b (enc := enc)))))
  refine q2s (P := Try.prog) (fn := Try.f5) (tb := 4) T_ok qkr (by rw [Try.params5]) hargs ?_ rfl ?_ (by kernel_rfl) Try.underlying4 laid (by decide +kernel) W base args ds gs before hval hW
  · rintro ⟨c, a, b, d, _⟩ ⟨_, h1, h2, h3, _⟩
    exact q7w c a b d h1 h2 h3
  · intro ds h
    match ds, h with
    | [_, _, _, _], _ => rfl
theorem windowSplit_over : Rows.windowSplitRow.holds Try.pinned (OpenSpec.ofChange Rows.windowSplitSpec) :=
  OpenClaim.holds_of_wide 5 Try.f5 rfl rfl rfl rfl rfl rfl rfl ⟨rfl, rfl, rfl, rfl, rfl⟩ rfl rfl rfl rfl rfl (by kernel_rfl) Try.func5 (by kernel_rfl)
    (of_decide_eq_true (by kernel_rfl)) (by unfold Func.isWrapper; first | (rw [if_pos (by decide +kernel)]; kernel_rfl) | (rw [if_neg (by decide +kernel)]; exact ⟨rfl, rfl⟩))
    (fun os started H enc _ => windowSplit_lifted os started H enc)
end Go.Proofs.Ytbhhifdhlafklaa.K
namespace Go.Proofs.Ytbhhifdhlafklaa
theorem windowSplit_holds : Rows.WindowSplitSaid := K.windowSplit_over
end Go.Proofs.Ytbhhifdhlafklaa
#print axioms Go.Proofs.Ytbhhifdhlafklaa.windowSplit_holds
