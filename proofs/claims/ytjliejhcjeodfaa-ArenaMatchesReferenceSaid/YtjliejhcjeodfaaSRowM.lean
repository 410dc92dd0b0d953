/- For every input ArenaMatchesReference returns true, and its arguments read as before. No conditions. -/
import Derived.Test.YtjliejhcjeodfaaGA08
set_option linter.unusedSectionVars false
set_option linter.unusedSimpArgs false
set_option linter.unusedVariables false
namespace Go.Proofs.Ytjliejhcjeodfaa.K
open Go.Ev
open Go.ChangeShapes Go.WideShapes Go.ChangeAt Go.RowKit
set_option maxRecDepth 100000 in
theorem arenaMatchesReference_lifted (os:Os) (started:os.Started) (H:Type) (enc:TypeId×Value→H) :
  ReturnsInHanded {} Try.checked os 3 .any (Rows.arenaMatchesReferenceSpec.pre6 enc Try.prog Try.f3 Rows.arenaMatchesReferenceRow.domain false) (Rows.arenaMatchesReferenceSpec.post enc Try.prog Try.f3 false true false false):=by
 refine returnsInHanded_of_change (C:=Try.checked) own started (by kernel_rfl) Try.func3
  (ChangeSpec.witness6 (enc:=enc) (C:=Try.checked) false ⟨#[],#[.int .i64 0,.agg #[.slice none 0 0,.slice none 0 0,.int .i64 0],.int .u8 0,.slice none 0 0,.agg #[.int .u8 0,.int .i64 0,.int .u8 0,.int .u8 0]],[]⟩ 8 (by kernel_rfl) (by kernel_rfl) (by kernel_rfl) (by kernel_rfl)) ?_
 intro W base args ds gs before hval hW hcnd _
 have hargs:=qcd Try.underlying3 rfl qhy (qla Try.underlying25 qzc (qcd Try.underlying5 rfl ql9 (qcd Try.underlying26 rfl qmy (qla Try.underlying28 qw6 (qkr (enc:=enc))))))
 refine qji (P:=Try.prog) (fn:=Try.f3) (tb:=4) T_ok qc4 (by rw[Try.params3]) hargs ?_ rfl ?_ (by kernel_rfl) Try.underlying4 laid (by decide +kernel) W base args ds gs before hval hW
 ·rintro⟨n,a,cap,l,o,_⟩ ⟨_,h1,h2,h3,h4,_⟩
  exact qw4 n a false false cap l false o h2 h3.1 h3.2 h4 h1.1 h1.2
 ·intro ds h
  match ds,h with
  | [_,_,_,_,_],_=>rfl
theorem arenaMatchesReference_over:Rows.arenaMatchesReferenceRow.holds Try.pinned (OpenSpec.ofChange Rows.arenaMatchesReferenceSpec):=
 OpenClaim.holds_of_wide 3 Try.f3 rfl rfl rfl rfl rfl rfl rfl ⟨rfl,rfl,rfl,rfl,rfl⟩ rfl rfl rfl rfl rfl (by kernel_rfl) Try.func3 (by kernel_rfl)
  (of_decide_eq_true (by kernel_rfl)) (by unfold Func.isWrapper;first|(rw[if_pos (by decide +kernel)];kernel_rfl)|(rw[if_neg (by decide +kernel)];exact⟨rfl,rfl⟩))
  (fun os started H enc _=>arenaMatchesReference_lifted os started H enc)
end Go.Proofs.Ytjliejhcjeodfaa.K
namespace Go.Proofs.Ytjliejhcjeodfaa
theorem arenaMatchesReference_holds:Rows.ArenaMatchesReferenceSaid:=K.arenaMatchesReference_over
end Go.Proofs.Ytjliejhcjeodfaa
#print axioms Go.Proofs.Ytjliejhcjeodfaa.arenaMatchesReference_holds
