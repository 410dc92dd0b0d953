/- Part of the proofs about this seat's program (module SData). -/
import Derived.Test.YtlcakphdkpdenaaCCfgs
import Derived.Test.YtlcakphdkpdenaaEvZB
import Derived.Test.YtlcakphdkpdenaaRows
import Derived.WalkKit
import Derived.ProofKit
set_option linter.unusedSectionVars false
set_option linter.unusedSimpArgs false
set_option linter.unusedVariables false
namespace Go.Proofs.Ytlcakphdkpdenaa.K
open Go.Ev
open Go.ChangeShapes Go.WideShapes Go.ChangeAt Go.RowKit
set_option linter.unusedSimpArgs false
set_option linter.unusedVariables false
section
variable {H : Type} {enc : TypeId × Value → H}
theorem wf_u8 {n : Int} (h : (Lit.int .u8 n).wf = true) : 0 ≤ n ∧ n ≤ 255 := by
  simp [Lit.wf] at h
  have h1 : IntKind.u8.min = 0 := rfl
  have h2 : IntKind.u8.max = 255 := rfl
  omega
theorem wf_i64 {n : Int} (h : (Lit.int .i64 n).wf = true) : -9223372036854775808 ≤ n ∧ n ≤ 9223372036854775807 := by
  simp [Lit.wf] at h
  have h1 : IntKind.i64.min = -9223372036854775808 := rfl
  have h2 : IntKind.i64.max = 9223372036854775807 := rfl
  omega
theorem data_int : IsData Try.prog enc 3 (fun n : Int => [(.v (.int .i64 (n)))]) (fun n => -9223372036854775808 ≤ n ∧ n ≤ 9223372036854775807) := (isData_int Try.underlying3).map id (fun _ => rfl) (fun _ h => wf_i64 h)
theorem data_u8 : IsData Try.prog enc 5 (fun n : Int => [(.v (.int .u8 n))]) (fun n => 0 ≤ n ∧ n ≤ 255) := (isData_int Try.underlying5).map id (fun _ => rfl) (fun _ h => wf_u8 h)
theorem data_op : IsData Try.prog enc 52 OpI.r (fun _ => True) := by
  have h := isData_struct' (P := Try.prog) (enc := enc) (t := 52) Try.underlying52 (isFields_cons (sz := 1) rfl (by kernel_rfl) data_int (isFields_cons (sz := 1) rfl (by kernel_rfl) data_int (isFields_cons (sz := 1) rfl (by kernel_rfl) data_int (isFields_cons (sz := 1) rfl (by kernel_rfl) data_int (isFields_nil _))))) (by kernel_rfl)
  exact h.map (fun x => (⟨x.1, x.2.1, x.2.2.1, x.2.2.2.1⟩ : OpI)) (fun _ => rfl) (fun _ _ => trivial)
theorem data_prog : IsData Try.prog enc 53 (fun l : List OpI => [(.fsl ((l).map OpI.r) false)]) (fun l => (∀ x ∈ l, True) ∧ l.length ≤ maxLen) := isData_slice (sz := 4) Try.underlying53 (by kernel_rfl) (by decide) (fun _ => rfl) data_op
theorem data_progs : IsData Try.prog enc 23 (fun l : List (List OpI) => [(.fsl ((l).map progC) false)]) (fun l => (∀ x ∈ l, (∀ y ∈ x, True) ∧ x.length ≤ maxLen) ∧ l.length ≤ maxLen) := isData_slice (sz := 1) Try.underlying23 (by kernel_rfl) (by decide) (fun _ => rfl) data_prog
theorem data_start : IsData Try.prog enc 48 Start.r (fun _ => True) := by
  have h := isData_struct' (P := Try.prog) (enc := enc) (t := 48) Try.underlying48 (isFields_cons (sz := 1) rfl (by kernel_rfl) data_int (isFields_cons (sz := 1) rfl (by kernel_rfl) data_int (isFields_nil _))) (by kernel_rfl)
  exact h.map (fun x => (⟨x.1, x.2.1⟩ : Start)) (fun _ => rfl) (fun _ _ => trivial)
theorem data_starts : IsData Try.prog enc 44 (fun l : List Start => [(.fsl ((l).map Start.r) false)]) (fun l => (∀ x ∈ l, True) ∧ l.length ≤ maxLen) := isData_slice (sz := 2) Try.underlying44 (by kernel_rfl) (by decide) (fun _ => rfl) data_start
theorem data_lps : IsData Try.prog enc 22 (fun l : List (List Start) => [(.fsl ((l).map lpC) false)]) (fun l => (∀ x ∈ l, (∀ y ∈ x, True) ∧ x.length ≤ maxLen) ∧ l.length ≤ maxLen) := isData_slice (sz := 1) Try.underlying22 (by kernel_rfl) (by decide) (fun _ => rfl) data_starts
theorem data_cfg : IsData Try.prog enc 25 (fun c : Cfg => [(.fsl ((c.lps).map lpC) false), (.fsl ((c.progs).map progC) false), (.v (.int .i64 (c.look))), (.v (.int .i64 (c.fin))), (.v (.int .i64 (c.cap)))]) (fun c => -9223372036854775808 ≤ c.look ∧ c.look ≤ 9223372036854775807) := by
  have h := isData_struct' (P := Try.prog) (enc := enc) (t := 25) Try.underlying25 (isFields_cons (sz := 1) rfl (by kernel_rfl) data_lps (isFields_cons (sz := 1) rfl (by kernel_rfl) data_progs (isFields_cons (sz := 1) rfl (by kernel_rfl) data_int (isFields_cons (sz := 1) rfl (by kernel_rfl) data_int (isFields_cons (sz := 1) rfl (by kernel_rfl) data_int (isFields_nil _)))))) (by kernel_rfl)
  exact h.map (fun x => (⟨x.1, x.2.1, x.2.2.1, x.2.2.2.1, x.2.2.2.2.1⟩ : Cfg)) (fun _ => rfl) (fun _ h => h.2.2.1)
end
theorem own : ownKnob Try.prog.godebug = none := by kernel_rfl
theorem laid : laidOutB Try.prog = true := by kernel_rfl
end Go.Proofs.Ytlcakphdkpdenaa.K
