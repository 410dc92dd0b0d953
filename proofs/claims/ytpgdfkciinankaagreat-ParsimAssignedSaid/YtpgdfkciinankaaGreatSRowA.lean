/- For every input ParsimAssigned returns true, and its arguments read as before. No conditions. -/
import Derived.Test.YtpgdfkciinankaaGreatGR10
set_option linter.unusedSectionVars false
set_option linter.unusedSimpArgs false
set_option linter.unusedVariables false
namespace Go.Proofs.YtpgdfkciinankaaGreat.K
open Go.Ev
open Go.ChangeShapes Go.WideShapes Go.ChangeAt Go.RowKit
set_option maxRecDepth 100000 in
theorem parsimAssigned_lifted (os:Os) (started:os.Started) (H:Type) (enc:TypeId×Value→H) :
  ReturnsInHanded {} Tryz.checked os 6 .any (Rows.parsimAssignedSpec.pre6 enc Tryz.prog Tryz.f6 Rows.parsimAssignedRow.domain false) (Rows.parsimAssignedSpec.post enc Tryz.prog Tryz.f6 false true false false):=by
 refine returnsInHanded_of_change (C:=Tryz.checked) own started (by kernel_rfl) Tryz.func6
  (ChangeSpec.witness6 (enc:=enc) (C:=Tryz.checked) false ⟨#[],#[.agg #[.slice none 0 0,.slice none 0 0,.int .i64 0,.int .i64 0,.int .i64 0],.int .u8 0,.slice none 0 0,.int .u8 0],[]⟩ 8 (by kernel_rfl) (by kernel_rfl) (by kernel_rfl) (by kernel_rfl)) ?_
 intro W base args ds gs before hval hW hcnd _
 have hargs:=qos Tryz.underlying25 q2x (qef Tryz.underlying5 rfl qpb (qef Tryz.underlying26 rfl qzm (qef Tryz.underlying5 rfl qpb (qvi (enc:=enc)))))
 refine qsi (P:=Tryz.prog) (fn:=Tryz.f6) (tb:=4) T_ok qnm (by rw[Tryz.params6]) hargs ?_ rfl ?_ (by kernel_rfl) Tryz.underlying4 laid (by decide +kernel) W base args ds gs before hval hW
 ·rintro⟨c,a,l,m,_⟩ ⟨_,h1,h2,h3,_⟩
  exact qad5 c a m h1 h3 l h2.1 false
 ·intro ds h
  match ds,h with
  | [_,_,_,_],_=>rfl
theorem parsimAssigned_over:Rows.parsimAssignedRow.holds Tryz.pinned (OpenSpec.ofChange Rows.parsimAssignedSpec):=
 OpenClaim.holds_of_wide 6 Tryz.f6 rfl rfl rfl rfl rfl rfl rfl ⟨rfl,rfl,rfl,rfl,rfl⟩ rfl rfl rfl rfl rfl (by kernel_rfl) Tryz.func6 (by kernel_rfl)
  (of_decide_eq_true (by kernel_rfl)) (by unfold Func.isWrapper;first|(rw[if_pos (by decide +kernel)];kernel_rfl)|(rw[if_neg (by decide +kernel)];exact⟨rfl,rfl⟩))
  (fun os started H enc _=>parsimAssigned_lifted os started H enc)
end Go.Proofs.YtpgdfkciinankaaGreat.K
namespace Go.Proofs.YtpgdfkciinankaaGreat
theorem parsimAssigned_holds:Rows.ParsimAssignedSaid:=K.parsimAssigned_over
end Go.Proofs.YtpgdfkciinankaaGreat
#print axioms Go.Proofs.YtpgdfkciinankaaGreat.parsimAssigned_holds
