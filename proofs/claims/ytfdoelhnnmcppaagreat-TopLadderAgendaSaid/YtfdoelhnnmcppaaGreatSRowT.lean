/- For every input TopLadderAgenda returns true, and its arguments read as before. No conditions. -/
import Derived.Test.YtfdoelhnnmcppaaGreatGT09
import Derived.Test.YtfdoelhnnmcppaaGreatGT10
set_option linter.unusedSectionVars false
set_option linter.unusedSimpArgs false
set_option linter.unusedVariables false
namespace Go.Proofs.YtfdoelhnnmcppaaGreat.K
open Go.Ev
open Go.ChangeShapes Go.WideShapes Go.ChangeAt Go.RowKit
set_option maxRecDepth 100000 in
theorem topLadderAgenda_lifted (os:Os) (started:os.Started) (H:Type) (enc:TypeId×Value→H) :
  ReturnsInHanded {} Tryz.checked os 3 .any (Rows.topLadderAgendaSpec.pre6 enc Tryz.prog Tryz.f3 Rows.topLadderAgendaRow.domain false) (Rows.topLadderAgendaSpec.post enc Tryz.prog Tryz.f3 false true false false):=by
 refine returnsInHanded_of_change (C:=Tryz.checked) own started (by kernel_rfl) Tryz.func3
  (ChangeSpec.witness6 (enc:=enc) (C:=Tryz.checked) false ⟨#[],#[.agg #[.slice none 0 0,.slice none 0 0,.int .i64 0,.int .i64 0,.int .i64 0],.int .u8 0,.int .u8 0],[]⟩ 8 (by kernel_rfl) (by kernel_rfl) (by kernel_rfl) (by kernel_rfl)) ?_
 intro W base args ds gs before hval hW hcnd _
 have hargs:=qacv Tryz.underlying25 data_cfg (q7i Tryz.underlying5 rfl qalt (q7i Tryz.underlying5 rfl qalt (qajo (enc:=enc))))
 refine qahj (P:=Tryz.prog) (fn:=Tryz.f3) (tb:=4) T_ok qos (by rw[Tryz.params3]) hargs ?_ rfl ?_ (by kernel_rfl) Tryz.underlying4 laid (by decide +kernel) W base args ds gs before hval hW
 ·rintro⟨c,a,b,_⟩ ⟨_,h1,h2,_⟩
  exact qajk c a b h1 h2
 ·intro ds h
  match ds,h with
  | [_,_,_],_=>rfl
theorem topLadderAgenda_over:Rows.topLadderAgendaRow.holds Tryz.pinned (OpenSpec.ofChange Rows.topLadderAgendaSpec):=
 OpenClaim.holds_of_wide 3 Tryz.f3 rfl rfl rfl rfl rfl rfl rfl ⟨rfl,rfl,rfl,rfl,rfl⟩ rfl rfl rfl rfl rfl (by kernel_rfl) Tryz.func3 (by kernel_rfl)
  (of_decide_eq_true (by kernel_rfl)) (by unfold Func.isWrapper;first|(rw[if_pos (by decide +kernel)];kernel_rfl)|(rw[if_neg (by decide +kernel)];exact⟨rfl,rfl⟩))
  (fun os started H enc _=>topLadderAgenda_lifted os started H enc)
end Go.Proofs.YtfdoelhnnmcppaaGreat.K
namespace Go.Proofs.YtfdoelhnnmcppaaGreat
theorem topLadderAgenda_holds:Rows.TopLadderAgendaSaid:=K.topLadderAgenda_over
end Go.Proofs.YtfdoelhnnmcppaaGreat
#print axioms Go.Proofs.YtfdoelhnnmcppaaGreat.topLadderAgenda_holds
