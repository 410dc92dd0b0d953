/- For every input WindowMatchesReference returns true, and its arguments read as before. No conditions. -/
import Derived.Test.YtbhhifdhlafklaaGreatGZM11
set_option linter.unusedSectionVars false
set_option linter.unusedSimpArgs false
set_option linter.unusedVariables false
namespace Go.Proofs.YtbhhifdhlafklaaGreat.K
open Go.Ev
open Go.ChangeShapes Go.WideShapes Go.ChangeAt Go.RowKit
set_option maxRecDepth 100000 in
theorem windowMatchesReference_lifted (os : Os) (started : os.Started) (H : Type) (enc : TypeId × Value → H) :
  ReturnsInHanded {} Tryz.checked os 3 .any (Rows.windowMatchesReferenceSpec.pre6 enc Tryz.prog Tryz.f3 Rows.windowMatchesReferenceRow.domain false) (Rows.windowMatchesReferenceSpec.post enc Tryz.prog Tryz.f3 false true false false):=by
 refine returnsInHanded_of_change (C:=Tryz.checked) own started (by kernel_rfl) Tryz.func3
  (ChangeSpec.witness6 (enc:=enc) (C:=Tryz.checked) false ⟨#[],#[.agg #[.slice none 0 0,.slice none 0 0,.int .i64 0,.int .i64 0,.int .i64 0],.int .u8 0,.int .u8 0,.int .u16 0],[]⟩ 8 (by kernel_rfl) (by kernel_rfl) (by kernel_rfl) (by kernel_rfl)) ?_
 intro W base args ds gs before hval hW hcnd _
 have hargs:=q4n Tryz.underlying25 data_cfg (quy Tryz.underlying5 rfl qacb (quy Tryz.underlying5 rfl qacb (quy Tryz.underlying26 rfl data_u16 (qaac (enc:=enc)))))
 refine q76 (P:=Tryz.prog) (fn:=Tryz.f3) (tb:=4) T_ok qh7 (by rw [Tryz.params3]) hargs ?_ rfl ?_ (by kernel_rfl) Tryz.underlying4 laid (by decide +kernel) W base args ds gs before hval hW
 ·rintro ⟨c,a,b,d,_⟩ ⟨_,h1,h2,h3,_⟩
  exact q65 c a b d h1 h2 h3
 ·intro ds h
  match ds,h with
  | [_,_,_,_],_ => rfl
theorem windowMatchesReference_over : Rows.windowMatchesReferenceRow.holds Tryz.pinned (OpenSpec.ofChange Rows.windowMatchesReferenceSpec) :=
 OpenClaim.holds_of_wide 3 Tryz.f3 rfl rfl rfl rfl rfl rfl rfl ⟨rfl,rfl,rfl,rfl,rfl⟩ rfl rfl rfl rfl rfl (by kernel_rfl) Tryz.func3 (by kernel_rfl)
  (of_decide_eq_true (by kernel_rfl)) (by unfold Func.isWrapper;first | (rw [if_pos (by decide +kernel)];kernel_rfl) | (rw [if_neg (by decide +kernel)];exact ⟨rfl,rfl⟩))
  (fun os started H enc _ => windowMatchesReference_lifted os started H enc)
end Go.Proofs.YtbhhifdhlafklaaGreat.K
namespace Go.Proofs.YtbhhifdhlafklaaGreat
theorem windowMatchesReference_holds : Rows.WindowMatchesReferenceSaid:=K.windowMatchesReference_over
end Go.Proofs.YtbhhifdhlafklaaGreat
#print axioms Go.Proofs.YtbhhifdhlafklaaGreat.windowMatchesReference_holds
