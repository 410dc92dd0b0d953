/- Part of the proofs about this seat's program (module SLaw7). -/
import Derived.Test.YtnmpkmakkniidaaSLaw6
import Derived.Test.YtnmpkmakkniidaaEvZB
import Derived.Test.YtnmpkmakkniidaaRows
import Derived.WalkKit
import Derived.ProofKit
set_option linter.unusedSectionVars false
set_option linter.unusedSimpArgs false
set_option linter.unusedVariables false
namespace Go.Proofs.Ytnmpkmakkniidaa.K
open Go.Ev
open Go.ChangeShapes Go.WideShapes Go.ChangeAt Go.RowKit
set_option linter.unusedSimpArgs false
set_option linter.unusedVariables false
section
variable {H : Type} {enc : TypeId × Value → H}
theorem wf_i64 {n : Int} (h : (Lit.int .i64 n).wf = true) : True := trivial
theorem wf_u64 {n : Int} (h : (Lit.int .u64 n).wf = true) : 0 ≤ n ∧ n < 18446744073709551616 := by
  simp [Lit.wf] at h
  have h1 : IntKind.u64.min = 0 := rfl
  have h2 : IntKind.u64.max = 18446744073709551615 := rfl
  omega
theorem data_int : IsData Try.prog enc 3 (fun n : Int => [(.v (.int .i64 (n)))]) (fun n => (Lit.int .i64 n).wf = true) := isData_int Try.underlying3
theorem data_u64 : IsData Try.prog enc 25 (fun n : Int => [(.v (.int .u64 (n)))]) (fun n => 0 ≤ n ∧ n < 18446744073709551616) := (isData_int Try.underlying25).map id (fun _ => rfl) (fun _ h => wf_u64 h)
theorem data_bool : IsData Try.prog enc 4 (fun b : Bool => [(.v (.bool (b)))]) (fun _ => True) := isData_bool Try.underlying4
theorem data_item : IsData Try.prog enc 33 Item.c (fun _ => True) := by
  have h := isData_struct' (P := Try.prog) (enc := enc) (t := 33) Try.underlying33 (isFields_cons (sz := 1) rfl (by kernel_rfl) data_int (isFields_cons (sz := 1) rfl (by kernel_rfl) data_int (isFields_cons (sz := 1) rfl (by kernel_rfl) data_int (isFields_nil _)))) (by kernel_rfl)
  exact h.map (fun x => (⟨x.1, x.2.1, x.2.2.1⟩ : Item)) (fun _ => rfl) (fun _ _ => trivial)
theorem data_items : IsData Try.prog enc 37 (fun l : List Item => [(.fsl ((l).map Item.c) false)]) (fun l => (∀ x ∈ l, True) ∧ l.length ≤ maxLen) := isData_slice (sz := 3) Try.underlying37 (by kernel_rfl) (by decide) (fun _ => rfl) data_item
theorem data_buckets : IsData Try.prog enc 22 (fun l : List (List Item) => [(.fsl ((l).map bucketC) false)]) (fun l => (∀ x ∈ l, (∀ y ∈ x, True) ∧ x.length ≤ maxLen) ∧ l.length ≤ maxLen) := isData_slice (sz := 1) Try.underlying22 (by kernel_rfl) (by decide) (fun _ => rfl) data_items
theorem data_rung : IsData Try.prog enc 24 (fun r : Int × Int × Int × List (List Item) => [(.v (.int .i64 (r.1))), (.v (.int .i64 (r.2.1))), (.v (.int .i64 (r.2.2.1))), (.fsl ((r.2.2.2).map bucketC) false)]) (fun r => (∀ x ∈ r.2.2.2, x.length ≤ maxLen) ∧ r.2.2.2.length ≤ maxLen) := by
  have h := isData_struct' (P := Try.prog) (enc := enc) (t := 24) Try.underlying24 (isFields_cons (sz := 1) rfl (by kernel_rfl) data_int (isFields_cons (sz := 1) rfl (by kernel_rfl) data_int (isFields_cons (sz := 1) rfl (by kernel_rfl) data_int (isFields_cons (sz := 1) rfl (by kernel_rfl) data_buckets (isFields_nil _))))) (by kernel_rfl)
  exact h.map (fun x => (x.1, x.2.1, x.2.2.1, x.2.2.2.1)) (fun _ => rfl) (fun _ h => ⟨fun x hx => (h.2.2.2.1.1 x hx).2, h.2.2.2.1.2⟩)
theorem data_op : IsData Try.prog enc 28 Op.c Op.ok := by
  have h := isData_struct' (P := Try.prog) (enc := enc) (t := 28) Try.underlying28 (isFields_cons (sz := 1) rfl (by kernel_rfl) data_bool (isFields_cons (sz := 1) rfl (by kernel_rfl) data_u64 (isFields_cons (sz := 1) rfl (by kernel_rfl) data_int (isFields_nil _)))) (by kernel_rfl)
  exact h.map (fun x => (⟨x.1, x.2.1, x.2.2.1⟩ : Op)) (fun _ => rfl) (fun x h => by exact h.2.1)
theorem data_ops : IsData Try.prog enc 26 (fun l : List Op => [(.fsl ((l).map Op.c) false)]) (fun l => (∀ x ∈ l, x.ok) ∧ l.length ≤ maxLen) := isData_slice (sz := 3) Try.underlying26 (by kernel_rfl) (by decide) (fun _ => rfl) data_op
end
theorem own : ownKnob Try.prog.godebug = none := by kernel_rfl
theorem laid : laidOutB Try.prog = true := by kernel_rfl
end Go.Proofs.Ytnmpkmakkniidaa.K
