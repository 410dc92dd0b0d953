/- For every input ArenaCapacity returns true, and its arguments read as before. No conditions. -/
import Derived.Test.YtjliejhcjeodfaaGA08
set_option linter.unusedSectionVars false
set_option linter.unusedSimpArgs false
set_option linter.unusedVariables false
namespace Go.Proofs.Ytjliejhcjeodfaa.K
open Go.Ev
open Go.ChangeShapes Go.WideShapes Go.ChangeAt Go.RowKit
set_option maxRecDepth 100000 in
theorem arenaCapacity_lifted (os:Os) (started:os.Started) (H:Type) (enc:TypeId×Value→H) :
  ReturnsInHanded {} Try.checked os 6 .any (Rows.arenaCapacitySpec.pre6 enc Try.prog Try.f6 Rows.arenaCapacityRow.domain false) (Rows.arenaCapacitySpec.post enc Try.prog Try.f6 false true false false):=by
 refine returnsInHanded_of_change (C:=Try.checked) own started (by kernel_rfl) Try.func6
  (ChangeSpec.witness6 (enc:=enc) (C:=Try.checked) false ⟨#[],#[.int .u8 0,.slice none 0 0,.int .u32 0,.int .i64 0],[]⟩ 8 (by kernel_rfl) (by kernel_rfl) (by kernel_rfl) (by kernel_rfl)) ?_
 intro W base args ds gs before hval hW hcnd _
 have hargs:=qcd Try.underlying5 rfl ql9 (qcd Try.underlying26 rfl qmy (qcd Try.underlying53 rfl qxl (qcd Try.underlying3 rfl qhy (qkr (enc:=enc)))))
 refine qji (P:=Try.prog) (fn:=Try.f6) (tb:=4) T_ok qg0 (by rw[Try.params6]) hargs ?_ rfl ?_ (by kernel_rfl) Try.underlying4 laid (by decide +kernel) W base args ds gs before hval hW
 ·rintro⟨cap,l,t,n,_⟩ ⟨h2,h3,h4,_⟩
  exact qv1 cap l false t n h2 h3.1 h3.2 h4
 ·intro ds h
  match ds,h with
  | [_,_,_,_],_=>rfl
theorem arenaCapacity_over:Rows.arenaCapacityRow.holds Try.pinned (OpenSpec.ofChange Rows.arenaCapacitySpec):=
 OpenClaim.holds_of_wide 6 Try.f6 rfl rfl rfl rfl rfl rfl rfl ⟨rfl,rfl,rfl,rfl,rfl⟩ rfl rfl rfl rfl rfl (by kernel_rfl) Try.func6 (by kernel_rfl)
  (of_decide_eq_true (by kernel_rfl)) (by unfold Func.isWrapper;first|(rw[if_pos (by decide +kernel)];kernel_rfl)|(rw[if_neg (by decide +kernel)];exact⟨rfl,rfl⟩))
  (fun os started H enc _=>arenaCapacity_lifted os started H enc)
end Go.Proofs.Ytjliejhcjeodfaa.K
namespace Go.Proofs.Ytjliejhcjeodfaa
theorem arenaCapacity_holds:Rows.ArenaCapacitySaid:=K.arenaCapacity_over
end Go.Proofs.Ytjliejhcjeodfaa
#print axioms Go.Proofs.Ytjliejhcjeodfaa.arenaCapacity_holds
