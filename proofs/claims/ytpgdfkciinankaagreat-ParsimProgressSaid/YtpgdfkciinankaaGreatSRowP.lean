/- For every input ParsimProgress returns true, and its arguments read as before. No conditions. -/
import Derived.Test.YtpgdfkciinankaaGreatGR10
set_option linter.unusedSectionVars false
set_option linter.unusedSimpArgs false
set_option linter.unusedVariables false
namespace Go.Proofs.YtpgdfkciinankaaGreat.K
open Go.Ev
open Go.ChangeShapes Go.WideShapes Go.ChangeAt Go.RowKit
set_option maxRecDepth 100000 in
theorem parsimProgress_lifted (os:Os) (started:os.Started) (H:Type) (enc:TypeId×Value→H) :
  ReturnsInHanded {} Tryz.checked os 7 .any (Rows.parsimProgressSpec.pre6 enc Tryz.prog Tryz.f7 Rows.parsimProgressRow.domain false) (Rows.parsimProgressSpec.post enc Tryz.prog Tryz.f7 false true false false):=by
 refine returnsInHanded_of_change (C:=Tryz.checked) own started (by kernel_rfl) Tryz.func7
  (ChangeSpec.witness6 (enc:=enc) (C:=Tryz.checked) false ⟨#[],#[.agg #[.slice none 0 0,.slice none 0 0,.int .i64 0,.int .i64 0,.int .i64 0],.int .u8 0,.slice none 0 0,.int .u8 0],[]⟩ 8 (by kernel_rfl) (by kernel_rfl) (by kernel_rfl) (by kernel_rfl)) ?_
 intro W base args ds gs before hval hW hcnd _
 have hargs:=qos Tryz.underlying25 q2x (qef Tryz.underlying5 rfl qpb (qef Tryz.underlying26 rfl qzm (qef Tryz.underlying5 rfl qpb (qvi (enc:=enc)))))
 refine qsi (P:=Tryz.prog) (fn:=Tryz.f7) (tb:=4) T_ok qno (by rw[Tryz.params7]) hargs ?_ rfl ?_ (by kernel_rfl) Tryz.underlying4 laid (by decide +kernel) W base args ds gs before hval hW
 ·rintro⟨c,a,l,m,_⟩ ⟨_,h1,h2,h3,_⟩
  exact qaee c a m h1 h3 l h2.1 false
 ·intro ds h
  match ds,h with
  | [_,_,_,_],_=>rfl
theorem parsimProgress_over:Rows.parsimProgressRow.holds Tryz.pinned (OpenSpec.ofChange Rows.parsimProgressSpec):=
 OpenClaim.holds_of_wide 7 Tryz.f7 rfl rfl rfl rfl rfl rfl rfl ⟨rfl,rfl,rfl,rfl,rfl⟩ rfl rfl rfl rfl rfl (by kernel_rfl) Tryz.func7 (by kernel_rfl)
  (of_decide_eq_true (by kernel_rfl)) (by unfold Func.isWrapper;first|(rw[if_pos (by decide +kernel)];kernel_rfl)|(rw[if_neg (by decide +kernel)];exact⟨rfl,rfl⟩))
  (fun os started H enc _=>parsimProgress_lifted os started H enc)
end Go.Proofs.YtpgdfkciinankaaGreat.K
namespace Go.Proofs.YtpgdfkciinankaaGreat
theorem parsimProgress_holds:Rows.ParsimProgressSaid:=K.parsimProgress_over
end Go.Proofs.YtpgdfkciinankaaGreat
#print axioms Go.Proofs.YtpgdfkciinankaaGreat.parsimProgress_holds
