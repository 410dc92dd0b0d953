/- For every input WindowOrder returns true, and its arguments read as before. No conditions. -/
import Derived.Test.YtbhhifdhlafklaaGreatGZO11
set_option linter.unusedSectionVars false
set_option linter.unusedSimpArgs false
set_option linter.unusedVariables false
namespace Go.Proofs.YtbhhifdhlafklaaGreat.K
open Go.Ev
open Go.ChangeShapes Go.WideShapes Go.ChangeAt Go.RowKit
set_option maxRecDepth 100000 in
theorem windowOrder_lifted (os : Os) (started : os.Started) (H : Type) (enc : TypeId × Value → H) :
  ReturnsInHanded {} Tryz.checked os 4 .any (Rows.windowOrderSpec.pre6 enc Tryz.prog Tryz.f4 Rows.windowOrderRow.domain false) (Rows.windowOrderSpec.post enc Tryz.prog Tryz.f4 false true false false) := by
 refine returnsInHanded_of_change (C := Tryz.checked) own started (by kernel_rfl) Tryz.func4
  (ChangeSpec.witness6 (enc := enc) (C := Tryz.checked) false ⟨#[], #[.agg #[.slice none 0 0, .slice none 0 0, .int .i64 0, .int .i64 0, .int .i64 0], .int .u8 0, .int .u8 0], []⟩ 8 (by kernel_rfl) (by kernel_rfl) (by kernel_rfl) (by kernel_rfl)) ?_
 intro W base args ds gs before hval hW hcnd _
 have hargs := q33 Tryz.underlying25 data_cfg (q0k Tryz.underlying5 rfl qaaw (q0k Tryz.underlying5 rfl qaaw (q71 (enc := enc))))
 refine q6x (P := Tryz.prog) (fn := Tryz.f4) (tb := 4) T_ok qma (by rw [Tryz.params4]) hargs ?_ rfl ?_ (by kernel_rfl) Tryz.underlying4 laid (by decide +kernel) W base args ds gs before hval hW
 ·rintro ⟨c, a, b, _⟩ ⟨_, h1, h2, _⟩
  exact qaaq c a b h1 h2
 ·intro ds h
  match ds, h with
  | [_, _, _], _ => rfl
theorem windowOrder_over : Rows.windowOrderRow.holds Tryz.pinned (OpenSpec.ofChange Rows.windowOrderSpec) :=
 OpenClaim.holds_of_wide 4 Tryz.f4 rfl rfl rfl rfl rfl rfl rfl ⟨rfl, rfl, rfl, rfl, rfl⟩ rfl rfl rfl rfl rfl (by kernel_rfl) Tryz.func4 (by kernel_rfl)
  (of_decide_eq_true (by kernel_rfl)) (by unfold Func.isWrapper; first | (rw [if_pos (by decide +kernel)]; kernel_rfl) | (rw [if_neg (by decide +kernel)]; exact ⟨rfl, rfl⟩))
  (fun os started H enc _ => windowOrder_lifted os started H enc)
end Go.Proofs.YtbhhifdhlafklaaGreat.K
namespace Go.Proofs.YtbhhifdhlafklaaGreat
theorem windowOrder_holds : Rows.WindowOrderSaid := K.windowOrder_over
end Go.Proofs.YtbhhifdhlafklaaGreat
#print axioms Go.Proofs.YtbhhifdhlafklaaGreat.windowOrder_holds
