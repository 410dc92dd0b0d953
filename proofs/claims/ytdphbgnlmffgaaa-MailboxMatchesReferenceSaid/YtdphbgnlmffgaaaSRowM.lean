/- For every input MailboxMatchesReference returns true, and its arguments read as before. No conditions. -/
import Derived.Test.YtdphbgnlmffgaaaGA09
set_option linter.unusedSectionVars false
set_option linter.unusedSimpArgs false
set_option linter.unusedVariables false
namespace Go.Proofs.Ytdphbgnlmffgaaa.K
open Go.Ev
open Go.ChangeShapes Go.WideShapes Go.ChangeAt Go.RowKit
set_option maxRecDepth 100000 in
theorem mailboxMatchesReference_lifted (os : Os) (started : os.Started) (H : Type) (enc : TypeId × Value → H) :
    ReturnsInHanded {} Try.checked os 3 .any (Rows.mailboxMatchesReferenceSpec.pre6 enc Try.prog Try.f3 Rows.mailboxMatchesReferenceRow.domain false) (Rows.mailboxMatchesReferenceSpec.post enc Try.prog Try.f3 false true false false) := by
  refine returnsInHanded_of_change (C := Try.checked) own started (by kernel_rfl) Try.func3
    (ChangeSpec.witness6 (enc := enc) (C := Try.checked) false ⟨#[], #[.slice none 0 0, .int .u8 0, .slice none 0 0, .int .i64 0], []⟩ 8 (by kernel_rfl) (by kernel_rfl) (by kernel_rfl) (by kernel_rfl)) ?_
  intro W base args ds gs before hval hW hcnd _
  have hargs := isArgs_cell Try.underlying22 rfl data_evts (isArgs_cell Try.underlying5 rfl data_u8 (isArgs_cell Try.underlying23 rfl data_ints (isArgs_cell Try.underlying3 rfl data_int (isArgs_nil (enc := enc)))))
  refine contract_of (P := Try.prog) (fn := Try.f3) (tb := 4) T_ok code_law22_MailboxMatchesReference (by rw [Try.params3]) hargs ?_ rfl ?_ (by kernel_rfl) Try.underlying4 laid (by decide +kernel) W base args ds gs before hval hW
  · rintro ⟨l, a, k, b, _⟩ ⟨_, h1, h2, _⟩
    exact law_Matches l false a h1.1 h1.2 k false b h2.2
  · intro ds h
    match ds, h with
    | [_, _, _, _], _ => rfl
theorem mailboxMatchesReference_over : Rows.mailboxMatchesReferenceRow.holds Try.pinned (OpenSpec.ofChange Rows.mailboxMatchesReferenceSpec) :=
  OpenClaim.holds_of_wide 3 Try.f3 rfl rfl rfl rfl rfl rfl rfl ⟨rfl, rfl, rfl, rfl, rfl⟩ rfl rfl rfl rfl rfl (by kernel_rfl) Try.func3 (by kernel_rfl)
    (of_decide_eq_true (by kernel_rfl)) (by unfold Func.isWrapper; first | (rw [if_pos (by decide +kernel)]; kernel_rfl) | (rw [if_neg (by decide +kernel)]; exact ⟨rfl, rfl⟩))
    (fun os started H enc _ => mailboxMatchesReference_lifted os started H enc)
end Go.Proofs.Ytdphbgnlmffgaaa.K
namespace Go.Proofs.Ytdphbgnlmffgaaa
theorem mailboxMatchesReference_holds : Rows.MailboxMatchesReferenceSaid := K.mailboxMatchesReference_over
end Go.Proofs.Ytdphbgnlmffgaaa
#print axioms Go.Proofs.Ytdphbgnlmffgaaa.mailboxMatchesReference_holds
