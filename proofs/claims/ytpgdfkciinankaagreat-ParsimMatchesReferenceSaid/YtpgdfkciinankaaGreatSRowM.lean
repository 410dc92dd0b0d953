/- For every input ParsimMatchesReference returns true, and its arguments read as before. No conditions. -/
import Derived.Test.YtpgdfkciinankaaGreatGM11
set_option linter.unusedSectionVars false
set_option linter.unusedSimpArgs false
set_option linter.unusedVariables false
namespace Go.Proofs.YtpgdfkciinankaaGreat.K
open Go.Ev
open Go.ChangeShapes Go.WideShapes Go.ChangeAt Go.RowKit
set_option maxRecDepth 100000 in
theorem parsimMatchesReference_lifted (os:Os) (started:os.Started) (H:Type) (enc:TypeId×Value→H) :
  ReturnsInHanded {} Tryz.checked os 3 .any (Rows.parsimMatchesReferenceSpec.pre6 enc Tryz.prog Tryz.f3 Rows.parsimMatchesReferenceRow.domain false) (Rows.parsimMatchesReferenceSpec.post enc Tryz.prog Tryz.f3 false true false false):=by
 refine returnsInHanded_of_change (C:=Tryz.checked) own started (by kernel_rfl) Tryz.func3
  (ChangeSpec.witness6 (enc:=enc) (C:=Tryz.checked) false ⟨#[],#[.agg #[.slice none 0 0,.slice none 0 0,.int .i64 0,.int .i64 0,.int .i64 0],.int .u8 0,.slice none 0 0,.int .u8 0],[]⟩ 8 (by kernel_rfl) (by kernel_rfl) (by kernel_rfl) (by kernel_rfl)) ?_
 intro W base args ds gs before hval hW hcnd _
 have hargs:=qafw Tryz.underlying25 data_cfg (q2l Tryz.underlying5 rfl qai2 (q2l Tryz.underlying26 rfl data_u8s (q2l Tryz.underlying5 rfl qai2 (qalr (enc:=enc)))))
 refine qajy (P:=Tryz.prog) (fn:=Tryz.f3) (tb:=4) T_ok qkf (by rw[Tryz.params3]) hargs ?_ rfl ?_ (by kernel_rfl) Tryz.underlying4 laid (by decide +kernel) W base args ds gs before hval hW
 ·rintro⟨c,a,l,m,_⟩ ⟨_,h1,h2,h3,_⟩
  exact qajc c a m h1 h3 l h2.1 false
 ·intro ds h
  match ds,h with
  | [_,_,_,_],_=>rfl
theorem parsimMatchesReference_over:Rows.parsimMatchesReferenceRow.holds Tryz.pinned (OpenSpec.ofChange Rows.parsimMatchesReferenceSpec):=
 OpenClaim.holds_of_wide 3 Tryz.f3 rfl rfl rfl rfl rfl rfl rfl ⟨rfl,rfl,rfl,rfl,rfl⟩ rfl rfl rfl rfl rfl (by kernel_rfl) Tryz.func3 (by kernel_rfl)
  (of_decide_eq_true (by kernel_rfl)) (by unfold Func.isWrapper;first|(rw[if_pos (by decide +kernel)];kernel_rfl)|(rw[if_neg (by decide +kernel)];exact⟨rfl,rfl⟩))
  (fun os started H enc _=>parsimMatchesReference_lifted os started H enc)
end Go.Proofs.YtpgdfkciinankaaGreat.K
namespace Go.Proofs.YtpgdfkciinankaaGreat
theorem parsimMatchesReference_holds:Rows.ParsimMatchesReferenceSaid:=K.parsimMatchesReference_over
end Go.Proofs.YtpgdfkciinankaaGreat
#print axioms Go.Proofs.YtpgdfkciinankaaGreat.parsimMatchesReference_holds
