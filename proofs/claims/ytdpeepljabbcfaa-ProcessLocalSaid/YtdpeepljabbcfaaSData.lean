/- Part of the proofs about this seat's program (module SData). -/
import Derived.Test.YtdpeepljabbcfaaCRuns
import Derived.Test.YtdpeepljabbcfaaEvZB
import Derived.Test.YtdpeepljabbcfaaRows
import Derived.WalkKit
import Derived.ProofKit
set_option linter.unusedSectionVars false
set_option linter.unusedSimpArgs false
set_option linter.unusedVariables false
namespace Go.Proofs.Ytdpeepljabbcfaa.K
open Go.Ev
open Go.ChangeShapes Go.WideShapes Go.ChangeAt Go.RowKit
set_option linter.unusedSimpArgs false
set_option linter.unusedVariables false
section
variable {H : Type} {enc : TypeId × Value → H}
theorem wf_u8 {n : Int} (h : (Lit.int .u8 n).wf = true) : 0 ≤ n ∧ n ≤ 255 := by
  simp [Lit.wf] at h
  have h1 : IntKind.u8.min = 0 := rfl
  have h2 : IntKind.u8.max = 255 := rfl
  omega
theorem wf_i64 {n : Int} (h : (Lit.int .i64 n).wf = true) : -9223372036854775808 ≤ n ∧ n ≤ 9223372036854775807 := by
  simp [Lit.wf] at h
  have h1 : IntKind.i64.min = -9223372036854775808 := rfl
  have h2 : IntKind.i64.max = 9223372036854775807 := rfl
  omega
theorem data_int : IsData Try.prog enc 3 (fun n : Int => [(.v (.int .i64 (n)))]) (fun n => -9223372036854775808 ≤ n ∧ n ≤ 9223372036854775807) := (isData_int Try.underlying3).map id (fun _ => rfl) (fun _ h => wf_i64 h)
theorem data_u8 : IsData Try.prog enc 5 (fun n : Int => [(.v (.int .u8 n))]) (fun n => 0 ≤ n ∧ n ≤ 255) := (isData_int Try.underlying5).map id (fun _ => rfl) (fun _ h => wf_u8 h)
theorem data_op : IsData Try.prog enc 80 OpI.r (fun _ => True) := by
  have h := isData_struct' (P := Try.prog) (enc := enc) (t := 80) Try.underlying80 (isFields_cons (sz := 1) rfl (by kernel_rfl) data_int (isFields_cons (sz := 1) rfl (by kernel_rfl) data_int (isFields_cons (sz := 1) rfl (by kernel_rfl) data_int (isFields_cons (sz := 1) rfl (by kernel_rfl) data_int (isFields_nil _))))) (by kernel_rfl)
  exact h.map (fun x => (⟨x.1, x.2.1, x.2.2.1, x.2.2.2.1⟩ : OpI)) (fun _ => rfl) (fun _ _ => trivial)
theorem data_prog : IsData Try.prog enc 59 (fun l : List OpI => [(.fsl ((l).map OpI.r) false)]) (fun l => (∀ x ∈ l, True) ∧ l.length ≤ maxLen) := isData_slice (sz := 4) Try.underlying59 (by kernel_rfl) (by decide) (fun _ => rfl) data_op
theorem data_progs : IsData Try.prog enc 23 (fun l : List (List OpI) => [(.fsl ((l).map progC) false)]) (fun l => (∀ x ∈ l, (∀ y ∈ x, True) ∧ x.length ≤ maxLen) ∧ l.length ≤ maxLen) := isData_slice (sz := 1) Try.underlying23 (by kernel_rfl) (by decide) (fun _ => rfl) data_prog
theorem data_start : IsData Try.prog enc 77 Start.r (fun _ => True) := by
  have h := isData_struct' (P := Try.prog) (enc := enc) (t := 77) Try.underlying77 (isFields_cons (sz := 1) rfl (by kernel_rfl) data_int (isFields_cons (sz := 1) rfl (by kernel_rfl) data_int (isFields_nil _))) (by kernel_rfl)
  exact h.map (fun x => (⟨x.1, x.2.1⟩ : Start)) (fun _ => rfl) (fun _ _ => trivial)
theorem data_starts : IsData Try.prog enc 78 (fun l : List Start => [(.fsl ((l).map Start.r) false)]) (fun l => (∀ x ∈ l, True) ∧ l.length ≤ maxLen) := isData_slice (sz := 2) Try.underlying78 (by kernel_rfl) (by decide) (fun _ => rfl) data_start
theorem data_lps : IsData Try.prog enc 22 (fun l : List (List Start) => [(.fsl ((l).map lpC) false)]) (fun l => (∀ x ∈ l, (∀ y ∈ x, True) ∧ x.length ≤ maxLen) ∧ l.length ≤ maxLen) := isData_slice (sz := 1) Try.underlying22 (by kernel_rfl) (by decide) (fun _ => rfl) data_starts
theorem data_cfg : IsData Try.prog enc 25 (fun c : Cfg => [(.fsl ((c.lps).map lpC) false), (.fsl ((c.progs).map progC) false), (.v (.int .i64 (c.look))), (.v (.int .i64 (c.fin))), (.v (.int .i64 (c.cap)))]) (fun c => -9223372036854775808 ≤ c.look ∧ c.look ≤ 9223372036854775807) := by
  have h := isData_struct' (P := Try.prog) (enc := enc) (t := 25) Try.underlying25 (isFields_cons (sz := 1) rfl (by kernel_rfl) data_lps (isFields_cons (sz := 1) rfl (by kernel_rfl) data_progs (isFields_cons (sz := 1) rfl (by kernel_rfl) data_int (isFields_cons (sz := 1) rfl (by kernel_rfl) data_int (isFields_cons (sz := 1) rfl (by kernel_rfl) data_int (isFields_nil _)))))) (by kernel_rfl)
  exact h.map (fun x => (⟨x.1, x.2.1, x.2.2.1, x.2.2.2.1, x.2.2.2.2.1⟩ : Cfg)) (fun _ => rfl) (fun _ h => h.2.2.1)
theorem wf_u32 {n : Int} (h : (Lit.int .u32 n).wf = true) : 0 ≤ n ∧ n ≤ 4294967295 := by
  simp [Lit.wf] at h
  have h1 : IntKind.u32.min = 0 := rfl
  have h2 : IntKind.u32.max = 4294967295 := rfl
  omega
theorem data_u32 : IsData Try.prog enc 51 (fun n : Int => [(.v (.int .u32 n))]) (fun n => 0 ≤ n ∧ n ≤ 4294967295) := (isData_int Try.underlying51).map id (fun _ => rfl) (fun _ h => wf_u32 h)
theorem data_bool : IsData Try.prog enc 4 (fun b : Bool => [(.v (.bool (b)))]) (fun _ => True) := isData_bool Try.underlying4
theorem data_ints : IsData Try.prog enc 30 (fun l : List Int => [(.fsl ((l).map intC) false)]) (fun l => l.length ≤ maxLen) := (isData_slice (sz := 1) Try.underlying30 (by kernel_rfl) (by decide) (fun _ => rfl) data_int).map id (fun _ => rfl) (fun _ h => h.2)
theorem data_proc : IsData Try.prog enc 50 Pr.r (fun q => q.timer.length ≤ maxLen) := by
  have h := isData_struct' (P := Try.prog) (enc := enc) (t := 50) Try.underlying50 (isFields_cons (sz := 1) rfl (by kernel_rfl) data_int (isFields_cons (sz := 1) rfl (by kernel_rfl) data_int (isFields_cons (sz := 1) rfl (by kernel_rfl) data_bool (isFields_cons (sz := 1) rfl (by kernel_rfl) data_ints (isFields_nil _))))) (by kernel_rfl)
  exact h.map (fun x => (⟨x.1, x.2.1, x.2.2.1, x.2.2.2.1⟩ : Pr)) (fun _ => rfl) (fun _ h => h.2.2.2.1)
theorem data_procs : IsData Try.prog enc 27 (fun l : List Pr => [(.fsl ((l).map Pr.r) false)]) (fun l => (∀ x ∈ l, x.timer.length ≤ maxLen) ∧ l.length ≤ maxLen) := isData_slice (sz := 4) Try.underlying27 (by kernel_rfl) (by decide) (fun _ => rfl) data_proc
theorem data_regs : IsData Try.prog enc 26 (fun x : Int × Int => [(.v (.int .i64 (x.1)))] ++ [(.v (.int .i64 (x.2)))]) (fun _ => True) := (isData_array2 (sz := 1) (n := 2) Try.underlying26 (by kernel_rfl) (by kernel_rfl) rfl data_int).map id (fun _ => rfl) (fun _ _ => trivial)
theorem data_lp : IsData Try.prog enc 29 Lp.r (fun x => (∀ q ∈ x.procs, q.timer.length ≤ maxLen) ∧ x.procs.length ≤ maxLen) := by
  have h := isData_struct' (P := Try.prog) (enc := enc) (t := 29) Try.underlying29 (isFields_cons (sz := 2) rfl (by kernel_rfl) data_regs (isFields_cons (sz := 1) rfl (by kernel_rfl) data_procs (isFields_cons (sz := 1) rfl (by kernel_rfl) data_int (isFields_nil _)))) (by kernel_rfl)
  exact h.map (fun x => (⟨x.1.1, x.1.2, x.2.1, x.2.2.1⟩ : Lp)) (fun _ => rfl) (fun _ h => h.2.1)
theorem data_evt : IsData Try.prog enc 32 Evt.r (fun x => x.key.length ≤ maxLen) := by
  have h := isData_struct' (P := Try.prog) (enc := enc) (t := 32) Try.underlying32 (isFields_cons (sz := 1) rfl (by kernel_rfl) data_int (isFields_cons (sz := 1) rfl (by kernel_rfl) data_ints (isFields_cons (sz := 1) rfl (by kernel_rfl) data_int (isFields_cons (sz := 1) rfl (by kernel_rfl) data_int (isFields_cons (sz := 1) rfl (by kernel_rfl) data_int (isFields_cons (sz := 1) rfl (by kernel_rfl) data_int (isFields_nil _))))))) (by kernel_rfl)
  exact h.map (fun x => (⟨x.1, x.2.1, x.2.2.1, x.2.2.2.1, x.2.2.2.2.1, x.2.2.2.2.2.1⟩ : Evt)) (fun _ => rfl) (fun _ h => h.2.1)
theorem Lp.short_data {x : Lp} (h : (∀ q ∈ x.procs, q.timer.length ≤ maxLen) ∧ x.procs.length ≤ maxLen) : x.Short := ⟨h.2, h.1⟩
end
theorem own : ownKnob Try.prog.godebug = none := by kernel_rfl
theorem laid : laidOutB Try.prog = true := by kernel_rfl
end Go.Proofs.Ytdpeepljabbcfaa.K
