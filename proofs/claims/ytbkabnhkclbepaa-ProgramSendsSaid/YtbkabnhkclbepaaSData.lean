/- Part of the proofs about this seat's program (module SData). -/
import Derived.Test.YtbkabnhkclbepaaSHead
import Derived.Test.YtbkabnhkclbepaaEvZB
import Derived.Test.YtbkabnhkclbepaaRows
import Derived.WalkKit
import Derived.ProofKit
set_option linter.unusedSectionVars false
set_option linter.unusedSimpArgs false
set_option linter.unusedVariables false
namespace Go.Proofs.Ytbkabnhkclbepaa.K
open Go.Ev
open Go.ChangeShapes Go.WideShapes Go.ChangeAt Go.RowKit
set_option linter.unusedSimpArgs false
set_option linter.unusedVariables false
section
variable {H : Type} {enc : TypeId × Value → H}
theorem wf_u8 {n : Int} (h : (Lit.int .u8 n).wf = true) : 0 ≤ n ∧ n ≤ 255 := by
  simp [Lit.wf] at h
  have h1 : IntKind.u8.min = 0 := rfl
  have h2 : IntKind.u8.max = 255 := rfl
  omega
theorem data_int : IsData Try.prog enc 3 (fun n : Int => [(.v (.int .i64 (n)))]) (fun n => (Lit.int .i64 n).wf = true) := isData_int Try.underlying3
theorem data_u8 : IsData Try.prog enc 5 (fun n : Int => [(.v (.int .u8 n))]) (fun n => 0 ≤ n ∧ n ≤ 255) := (isData_int Try.underlying5).map id (fun _ => rfl) (fun _ h => wf_u8 h)
theorem data_op : IsData Try.prog enc 32 OpI.r (fun _ => True) := by
  have h := isData_struct' (P := Try.prog) (enc := enc) (t := 32) Try.underlying32 (isFields_cons (sz := 1) rfl (by kernel_rfl) data_int (isFields_cons (sz := 1) rfl (by kernel_rfl) data_int (isFields_cons (sz := 1) rfl (by kernel_rfl) data_int (isFields_cons (sz := 1) rfl (by kernel_rfl) data_int (isFields_nil _))))) (by kernel_rfl)
  exact h.map (fun x => (⟨x.1, x.2.1, x.2.2.1, x.2.2.2.1⟩ : OpI)) (fun _ => rfl) (fun _ _ => trivial)
theorem data_prog : IsData Try.prog enc 22 (fun l : List OpI => [(.fsl ((l).map OpI.r) false)]) (fun l => (∀ x ∈ l, True) ∧ l.length ≤ maxLen) := isData_slice (sz := 4) Try.underlying22 (by kernel_rfl) (by decide) (fun _ => rfl) data_op
end
theorem own : ownKnob Try.prog.godebug = none := by kernel_rfl
theorem laid : laidOutB Try.prog = true := by kernel_rfl
end Go.Proofs.Ytbkabnhkclbepaa.K
