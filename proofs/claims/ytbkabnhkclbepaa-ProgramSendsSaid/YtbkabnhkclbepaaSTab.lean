/- Part of the proofs about this seat's program (module STab). -/
import Derived.Test.YtbkabnhkclbepaaSK
import Derived.Test.YtbkabnhkclbepaaProg
import Derived.KernelRfl
set_option linter.unusedSectionVars false
set_option linter.unusedSimpArgs false
set_option linter.unusedVariables false
/-
  THE TABLE OF THE COMPILED FUNCTIONS, AND THAT THEY ARE THE PROGRAM'S (printed by a program of mine).
-/
namespace Go.Proofs.Ytbkabnhkclbepaa.K
open Go.Ev
set_option maxRecDepth 100000
theorem ok_law18_ProgramClosed : comp Try.prog { loops := [([0, 3, 4, 5, 6], true), ([0, 3, 4, 5, 7, 8], true), ([0, 3, 4, 5, 7, 8, 9, 10], true), ([0, 3, 5, 7, 11], true)] } n_law18_ProgramClosed = some c_law18_ProgramClosed := by kernel_rfl
theorem ok_law18_ProgramBounds : comp Try.prog { loops := [([0, 3, 11, 12, 13, 14, 15], true)] } n_law18_ProgramBounds = some c_law18_ProgramBounds := by kernel_rfl
theorem ok_law18_ProgramSends : comp Try.prog { loops := [([0, 3, 4, 5, 6, 7], true)] } n_law18_ProgramSends = some c_law18_ProgramSends := by kernel_rfl
theorem ok_law18_head : comp Try.prog {  } n_law18_head = some c_law18_head := by kernel_rfl
theorem ok_ref18_Check : comp Try.prog { loops := [([0, 1, 2, 3, 9], true), ([0, 2, 3, 10], true), ([0, 3, 11], true)] } n_ref18_Check = some c_ref18_Check := by kernel_rfl
theorem ok_program_Reachable : comp Try.prog { mI := [57], own := [3, 8], loops := [([0, 3, 4], true), ([0, 3, 4, 5, 23, 24, 25], true)] } n_program_Reachable = some c_program_Reachable := by kernel_rfl
theorem ok_ref18_Next : comp Try.prog { own := [5] } n_ref18_Next = some c_ref18_Next := by kernel_rfl
theorem ok_program_Check : comp Try.prog { loops := [([0, 33, 34, 35], true), ([0, 11, 33, 34, 35, 39, 40, 41], true)] } n_program_Check = some c_program_Check := by kernel_rfl
theorem ok_program_MinSend : comp Try.prog { loops := [([0, 3, 7, 8, 9], true)] } n_program_MinSend = some c_program_MinSend := by kernel_rfl
theorem ok_ref18_Same : comp Try.prog { loops := [([0, 1, 5], true)] } n_ref18_Same = some c_ref18_Same := by kernel_rfl
theorem ok_program_Halts : comp Try.prog { frz := [1], loops := [([4, 11, 12], true)] } n_program_Halts = some c_program_Halts := by kernel_rfl
theorem ok_ref18_shape : comp Try.prog { loops := [([0, 3], true)] } n_ref18_shape = some c_ref18_shape := by kernel_rfl
theorem ok_ref18_operands : comp Try.prog { frz := [3] } n_ref18_operands = some c_ref18_operands := by kernel_rfl
theorem ok_program_successors : comp Try.prog { own := [5] } n_program_successors = some c_program_successors := by kernel_rfl
theorem ok_slices_Sort_Lint_int : comp Try.prog { mI := [10] } n_slices_Sort_Lint_int = some c_slices_Sort_Lint_int := by kernel_rfl
theorem ok_program_within : comp Try.prog {  } n_program_within = some c_program_within := by kernel_rfl
theorem ok_program_checker_code : comp Try.prog { frz := [2, 3] } n_program_checker_code = some c_program_checker_code := by kernel_rfl
theorem ok_program_checker_operands : comp Try.prog { frz := [2, 3], ldF := [41, 60, 79] } n_program_checker_operands = some c_program_checker_operands := by kernel_rfl
theorem ok_program_checker_target : comp Try.prog { frz := [2, 3] } n_program_checker_target = some c_program_checker_target := by kernel_rfl
theorem ok_program_checker_early : comp Try.prog { frz := [2, 3] } n_program_checker_early = some c_program_checker_early := by kernel_rfl
theorem ok_program_Halts_1 : comp Try.prog { loops := [([0, 2, 3, 39, 40, 41], true)] } n_program_Halts_1 = some c_program_Halts_1 := by kernel_rfl
theorem ok_ref18_delay : comp Try.prog {  } n_ref18_delay = some c_ref18_delay := by kernel_rfl
theorem ok_ref18_value : comp Try.prog {  } n_ref18_value = some c_ref18_value := by kernel_rfl
theorem ok_math_bits_Len : comp Try.prog {  } n_math_bits_Len = some c_math_bits_Len := by kernel_rfl
theorem ok_slices_pdqsortOrdered_int : comp Try.prog { mI := [27, 33, 39, 46, 54, 72, 92, 99, 121, 132], loops := [([0, 1, 2, 3, 8, 9], true)] } n_slices_pdqsortOrdered_int = some c_slices_pdqsortOrdered_int := by kernel_rfl
theorem ok_math_bits_Len32 : comp Try.prog {  } n_math_bits_Len32 = some c_math_bits_Len32 := by kernel_rfl
theorem ok_math_bits_Len64 : comp Try.prog {  } n_math_bits_Len64 = some c_math_bits_Len64 := by kernel_rfl
theorem ok_slices_insertionSortOrdered_int : comp Try.prog { loops := [([0, 1, 2, 6], true), ([0, 1, 2, 6, 7], true)] } n_slices_insertionSortOrdered_int = some c_slices_insertionSortOrdered_int := by kernel_rfl
theorem ok_slices_heapSortOrdered_int : comp Try.prog { mI := [26, 55], loops := [([0, 6, 7, 8, 9], true), ([0, 6, 7, 10], true)] } n_slices_heapSortOrdered_int = some c_slices_heapSortOrdered_int := by kernel_rfl
theorem ok_slices_breakPatternsOrdered_int : comp Try.prog { mI := [36], loops := [([0, 1, 6, 7, 8, 9], true)] } n_slices_breakPatternsOrdered_int = some c_slices_breakPatternsOrdered_int := by kernel_rfl
theorem ok_slices_choosePivotOrdered_int : comp Try.prog { mI := [37, 40, 43, 48] } n_slices_choosePivotOrdered_int = some c_slices_choosePivotOrdered_int := by kernel_rfl
theorem ok_slices_reverseRangeOrdered_int : comp Try.prog { loops := [([0, 6, 7], true)] } n_slices_reverseRangeOrdered_int = some c_slices_reverseRangeOrdered_int := by kernel_rfl
theorem ok_slices_partialInsertionSortOrdered_int : comp Try.prog { loops := [([0, 1, 2, 7, 8], true), ([0, 1, 2, 7, 8], true), ([0, 1, 2, 7, 8, 9], true), ([0, 1, 2, 7, 8, 10], true)] } n_slices_partialInsertionSortOrdered_int = some c_slices_partialInsertionSortOrdered_int := by kernel_rfl
theorem ok_cmp_Less_int : comp Try.prog {  } n_cmp_Less_int = some c_cmp_Less_int := by kernel_rfl
theorem ok_slices_partitionEqualOrdered_int : comp Try.prog { loops := [([0, 1, 9, 10], true), ([0, 1, 9, 10], true), ([0, 1, 9, 10], true)] } n_slices_partitionEqualOrdered_int = some c_slices_partitionEqualOrdered_int := by kernel_rfl
theorem ok_slices_partitionOrdered_int : comp Try.prog { loops := [([0, 1, 10, 11], true), ([0, 1, 10, 11], true), ([0, 1, 10, 11], true), ([0, 1, 10, 11], true), ([0, 1, 10, 11], true)] } n_slices_partitionOrdered_int = some c_slices_partitionOrdered_int := by kernel_rfl
theorem ok_slices_siftDownOrdered_int : comp Try.prog { loops := [([0, 2, 3, 8], true)] } n_slices_siftDownOrdered_int = some c_slices_siftDownOrdered_int := by kernel_rfl
theorem ok_slices_nextPowerOfTwo : comp Try.prog {  } n_slices_nextPowerOfTwo = some c_slices_nextPowerOfTwo := by kernel_rfl
theorem ok_slices_xorshift_Next : comp Try.prog {  } n_slices_xorshift_Next = some c_slices_xorshift_Next := by kernel_rfl
theorem ok_slices_medianAdjacentOrdered_int : comp Try.prog { mI := [14] } n_slices_medianAdjacentOrdered_int = some c_slices_medianAdjacentOrdered_int := by kernel_rfl
theorem ok_slices_medianOrdered_int : comp Try.prog { mI := [16, 24, 32] } n_slices_medianOrdered_int = some c_slices_medianOrdered_int := by kernel_rfl
theorem ok_cmp_isNaN_int : comp Try.prog {  } n_cmp_isNaN_int = some c_cmp_isNaN_int := by kernel_rfl
theorem ok_slices_order2Ordered_int : comp Try.prog {  } n_slices_order2Ordered_int = some c_slices_order2Ordered_int := by kernel_rfl
def codeL : List (Nat × CFunc) := [(n_law18_ProgramClosed, c_law18_ProgramClosed), (n_law18_ProgramBounds, c_law18_ProgramBounds), (n_law18_ProgramSends, c_law18_ProgramSends), (n_law18_head, c_law18_head), (n_ref18_Check, c_ref18_Check), (n_program_Reachable, c_program_Reachable), (n_ref18_Next, c_ref18_Next), (n_program_Check, c_program_Check), (n_program_MinSend, c_program_MinSend), (n_ref18_Same, c_ref18_Same), (n_program_Halts, c_program_Halts), (n_ref18_shape, c_ref18_shape), (n_ref18_operands, c_ref18_operands), (n_program_successors, c_program_successors), (n_slices_Sort_Lint_int, c_slices_Sort_Lint_int), (n_program_within, c_program_within), (n_program_checker_code, c_program_checker_code), (n_program_checker_operands, c_program_checker_operands), (n_program_checker_target, c_program_checker_target), (n_program_checker_early, c_program_checker_early), (n_program_Halts_1, c_program_Halts_1), (n_ref18_delay, c_ref18_delay), (n_ref18_value, c_ref18_value), (n_math_bits_Len, c_math_bits_Len), (n_slices_pdqsortOrdered_int, c_slices_pdqsortOrdered_int), (n_math_bits_Len32, c_math_bits_Len32), (n_math_bits_Len64, c_math_bits_Len64), (n_slices_insertionSortOrdered_int, c_slices_insertionSortOrdered_int), (n_slices_heapSortOrdered_int, c_slices_heapSortOrdered_int), (n_slices_breakPatternsOrdered_int, c_slices_breakPatternsOrdered_int), (n_slices_choosePivotOrdered_int, c_slices_choosePivotOrdered_int), (n_slices_reverseRangeOrdered_int, c_slices_reverseRangeOrdered_int), (n_slices_partialInsertionSortOrdered_int, c_slices_partialInsertionSortOrdered_int), (n_cmp_Less_int, c_cmp_Less_int), (n_slices_partitionEqualOrdered_int, c_slices_partitionEqualOrdered_int), (n_slices_partitionOrdered_int, c_slices_partitionOrdered_int), (n_slices_siftDownOrdered_int, c_slices_siftDownOrdered_int), (n_slices_nextPowerOfTwo, c_slices_nextPowerOfTwo), (n_slices_xorshift_Next, c_slices_xorshift_Next), (n_slices_medianAdjacentOrdered_int, c_slices_medianAdjacentOrdered_int), (n_slices_medianOrdered_int, c_slices_medianOrdered_int), (n_cmp_isNaN_int, c_cmp_isNaN_int), (n_slices_order2Ordered_int, c_slices_order2Ordered_int)]
def extL : List (Nat × (Nat × Nat)) := []
def assoc {α : Type} : List (Nat × α) → Nat → Option α
  | [], _ => none
  | (k, x) :: l, i => if k = i then some x else assoc l i
theorem assoc_mem {α : Type} : ∀ {l : List (Nat × α)} {i : Nat} {x : α}, assoc l i = some x → (i, x) ∈ l
  | [], _, _, h => by simp [assoc] at h
  | (k, y) :: l, i, x, h => by
    simp only [assoc] at h
    split at h
    · rename_i hk; subst hk; cases h; simp
    · exact List.mem_cons_of_mem _ (assoc_mem h)
def T : Tab := { code := assoc codeL, ext := fun k => (assoc extL k).map fun p => cloneF p.1 p.2 }
theorem codeL_ok : ∀ x ∈ codeL, ∃ h, comp Try.prog h x.1 = some x.2 := by
  intro x hx
  simp only [codeL, List.mem_cons, List.not_mem_nil, or_false] at hx
  rcases hx with rfl | rfl | rfl | rfl | rfl | rfl | rfl | rfl | rfl | rfl | rfl | rfl | rfl | rfl | rfl | rfl | rfl | rfl | rfl | rfl | rfl | rfl | rfl | rfl | rfl | rfl | rfl | rfl | rfl | rfl | rfl | rfl | rfl | rfl | rfl | rfl | rfl | rfl | rfl | rfl | rfl | rfl | rfl
  · exact ⟨_, ok_law18_ProgramClosed⟩
  · exact ⟨_, ok_law18_ProgramBounds⟩
  · exact ⟨_, ok_law18_ProgramSends⟩
  · exact ⟨_, ok_law18_head⟩
  · exact ⟨_, ok_ref18_Check⟩
  · exact ⟨_, ok_program_Reachable⟩
  · exact ⟨_, ok_ref18_Next⟩
  · exact ⟨_, ok_program_Check⟩
  · exact ⟨_, ok_program_MinSend⟩
  · exact ⟨_, ok_ref18_Same⟩
  · exact ⟨_, ok_program_Halts⟩
  · exact ⟨_, ok_ref18_shape⟩
  · exact ⟨_, ok_ref18_operands⟩
  · exact ⟨_, ok_program_successors⟩
  · exact ⟨_, ok_slices_Sort_Lint_int⟩
  · exact ⟨_, ok_program_within⟩
  · exact ⟨_, ok_program_checker_code⟩
  · exact ⟨_, ok_program_checker_operands⟩
  · exact ⟨_, ok_program_checker_target⟩
  · exact ⟨_, ok_program_checker_early⟩
  · exact ⟨_, ok_program_Halts_1⟩
  · exact ⟨_, ok_ref18_delay⟩
  · exact ⟨_, ok_ref18_value⟩
  · exact ⟨_, ok_math_bits_Len⟩
  · exact ⟨_, ok_slices_pdqsortOrdered_int⟩
  · exact ⟨_, ok_math_bits_Len32⟩
  · exact ⟨_, ok_math_bits_Len64⟩
  · exact ⟨_, ok_slices_insertionSortOrdered_int⟩
  · exact ⟨_, ok_slices_heapSortOrdered_int⟩
  · exact ⟨_, ok_slices_breakPatternsOrdered_int⟩
  · exact ⟨_, ok_slices_choosePivotOrdered_int⟩
  · exact ⟨_, ok_slices_reverseRangeOrdered_int⟩
  · exact ⟨_, ok_slices_partialInsertionSortOrdered_int⟩
  · exact ⟨_, ok_cmp_Less_int⟩
  · exact ⟨_, ok_slices_partitionEqualOrdered_int⟩
  · exact ⟨_, ok_slices_partitionOrdered_int⟩
  · exact ⟨_, ok_slices_siftDownOrdered_int⟩
  · exact ⟨_, ok_slices_nextPowerOfTwo⟩
  · exact ⟨_, ok_slices_xorshift_Next⟩
  · exact ⟨_, ok_slices_medianAdjacentOrdered_int⟩
  · exact ⟨_, ok_slices_medianOrdered_int⟩
  · exact ⟨_, ok_cmp_isNaN_int⟩
  · exact ⟨_, ok_slices_order2Ordered_int⟩
theorem extL_ok : ∀ x ∈ extL, cloneOf Try.prog x.1 = some x.2 := by
  intro x hx
  cases hx
theorem mixed : Try.prog.follows .mixedOrders = true := by kernel_rfl
theorem T_ok : TabOk Try.prog T where
  code k f h := codeL_ok _ (assoc_mem h)
  ext k F h := by
    simp only [T, Option.map_eq_some_iff] at h
    obtain ⟨p, h1, rfl⟩ := h
    exact clone_ok mixed (extL_ok _ (assoc_mem h1))
  mixed := mixed
theorem code_law18_ProgramClosed : T.code n_law18_ProgramClosed = some c_law18_ProgramClosed := rfl
theorem code_law18_ProgramBounds : T.code n_law18_ProgramBounds = some c_law18_ProgramBounds := rfl
theorem code_law18_ProgramSends : T.code n_law18_ProgramSends = some c_law18_ProgramSends := rfl
theorem code_law18_head : T.code n_law18_head = some c_law18_head := rfl
theorem code_ref18_Check : T.code n_ref18_Check = some c_ref18_Check := rfl
theorem code_program_Reachable : T.code n_program_Reachable = some c_program_Reachable := rfl
theorem code_ref18_Next : T.code n_ref18_Next = some c_ref18_Next := rfl
theorem code_program_Check : T.code n_program_Check = some c_program_Check := rfl
theorem code_program_MinSend : T.code n_program_MinSend = some c_program_MinSend := rfl
theorem code_ref18_Same : T.code n_ref18_Same = some c_ref18_Same := rfl
theorem code_program_Halts : T.code n_program_Halts = some c_program_Halts := rfl
theorem code_ref18_shape : T.code n_ref18_shape = some c_ref18_shape := rfl
theorem code_ref18_operands : T.code n_ref18_operands = some c_ref18_operands := rfl
theorem code_program_successors : T.code n_program_successors = some c_program_successors := rfl
theorem code_slices_Sort_Lint_int : T.code n_slices_Sort_Lint_int = some c_slices_Sort_Lint_int := rfl
theorem code_program_within : T.code n_program_within = some c_program_within := rfl
theorem code_program_checker_code : T.code n_program_checker_code = some c_program_checker_code := rfl
theorem code_program_checker_operands : T.code n_program_checker_operands = some c_program_checker_operands := rfl
theorem code_program_checker_target : T.code n_program_checker_target = some c_program_checker_target := rfl
theorem code_program_checker_early : T.code n_program_checker_early = some c_program_checker_early := rfl
theorem code_program_Halts_1 : T.code n_program_Halts_1 = some c_program_Halts_1 := rfl
theorem code_ref18_delay : T.code n_ref18_delay = some c_ref18_delay := rfl
theorem code_ref18_value : T.code n_ref18_value = some c_ref18_value := rfl
theorem code_math_bits_Len : T.code n_math_bits_Len = some c_math_bits_Len := rfl
theorem code_slices_pdqsortOrdered_int : T.code n_slices_pdqsortOrdered_int = some c_slices_pdqsortOrdered_int := rfl
theorem code_math_bits_Len32 : T.code n_math_bits_Len32 = some c_math_bits_Len32 := rfl
theorem code_math_bits_Len64 : T.code n_math_bits_Len64 = some c_math_bits_Len64 := rfl
theorem code_slices_insertionSortOrdered_int : T.code n_slices_insertionSortOrdered_int = some c_slices_insertionSortOrdered_int := rfl
theorem code_slices_heapSortOrdered_int : T.code n_slices_heapSortOrdered_int = some c_slices_heapSortOrdered_int := rfl
theorem code_slices_breakPatternsOrdered_int : T.code n_slices_breakPatternsOrdered_int = some c_slices_breakPatternsOrdered_int := rfl
theorem code_slices_choosePivotOrdered_int : T.code n_slices_choosePivotOrdered_int = some c_slices_choosePivotOrdered_int := rfl
theorem code_slices_reverseRangeOrdered_int : T.code n_slices_reverseRangeOrdered_int = some c_slices_reverseRangeOrdered_int := rfl
theorem code_slices_partialInsertionSortOrdered_int : T.code n_slices_partialInsertionSortOrdered_int = some c_slices_partialInsertionSortOrdered_int := rfl
theorem code_cmp_Less_int : T.code n_cmp_Less_int = some c_cmp_Less_int := rfl
theorem code_slices_partitionEqualOrdered_int : T.code n_slices_partitionEqualOrdered_int = some c_slices_partitionEqualOrdered_int := rfl
theorem code_slices_partitionOrdered_int : T.code n_slices_partitionOrdered_int = some c_slices_partitionOrdered_int := rfl
theorem code_slices_siftDownOrdered_int : T.code n_slices_siftDownOrdered_int = some c_slices_siftDownOrdered_int := rfl
theorem code_slices_nextPowerOfTwo : T.code n_slices_nextPowerOfTwo = some c_slices_nextPowerOfTwo := rfl
theorem code_slices_xorshift_Next : T.code n_slices_xorshift_Next = some c_slices_xorshift_Next := rfl
theorem code_slices_medianAdjacentOrdered_int : T.code n_slices_medianAdjacentOrdered_int = some c_slices_medianAdjacentOrdered_int := rfl
theorem code_slices_medianOrdered_int : T.code n_slices_medianOrdered_int = some c_slices_medianOrdered_int := rfl
theorem code_cmp_isNaN_int : T.code n_cmp_isNaN_int = some c_cmp_isNaN_int := rfl
theorem code_slices_order2Ordered_int : T.code n_slices_order2Ordered_int = some c_slices_order2Ordered_int := rfl
theorem ext_law18_ProgramClosed : T.ext n_law18_ProgramClosed = none := rfl
theorem ext_law18_ProgramBounds : T.ext n_law18_ProgramBounds = none := rfl
theorem ext_law18_ProgramSends : T.ext n_law18_ProgramSends = none := rfl
theorem ext_law18_head : T.ext n_law18_head = none := rfl
theorem ext_ref18_Check : T.ext n_ref18_Check = none := rfl
theorem ext_program_Reachable : T.ext n_program_Reachable = none := rfl
theorem ext_ref18_Next : T.ext n_ref18_Next = none := rfl
theorem ext_program_Check : T.ext n_program_Check = none := rfl
theorem ext_program_MinSend : T.ext n_program_MinSend = none := rfl
theorem ext_ref18_Same : T.ext n_ref18_Same = none := rfl
theorem ext_program_Halts : T.ext n_program_Halts = none := rfl
theorem ext_ref18_shape : T.ext n_ref18_shape = none := rfl
theorem ext_ref18_operands : T.ext n_ref18_operands = none := rfl
theorem ext_program_successors : T.ext n_program_successors = none := rfl
theorem ext_slices_Sort_Lint_int : T.ext n_slices_Sort_Lint_int = none := rfl
theorem ext_program_within : T.ext n_program_within = none := rfl
theorem ext_program_checker_code : T.ext n_program_checker_code = none := rfl
theorem ext_program_checker_operands : T.ext n_program_checker_operands = none := rfl
theorem ext_program_checker_target : T.ext n_program_checker_target = none := rfl
theorem ext_program_checker_early : T.ext n_program_checker_early = none := rfl
theorem ext_program_Halts_1 : T.ext n_program_Halts_1 = none := rfl
theorem ext_ref18_delay : T.ext n_ref18_delay = none := rfl
theorem ext_ref18_value : T.ext n_ref18_value = none := rfl
theorem ext_math_bits_Len : T.ext n_math_bits_Len = none := rfl
theorem ext_slices_pdqsortOrdered_int : T.ext n_slices_pdqsortOrdered_int = none := rfl
theorem ext_math_bits_Len32 : T.ext n_math_bits_Len32 = none := rfl
theorem ext_math_bits_Len64 : T.ext n_math_bits_Len64 = none := rfl
theorem ext_slices_insertionSortOrdered_int : T.ext n_slices_insertionSortOrdered_int = none := rfl
theorem ext_slices_heapSortOrdered_int : T.ext n_slices_heapSortOrdered_int = none := rfl
theorem ext_slices_breakPatternsOrdered_int : T.ext n_slices_breakPatternsOrdered_int = none := rfl
theorem ext_slices_choosePivotOrdered_int : T.ext n_slices_choosePivotOrdered_int = none := rfl
theorem ext_slices_reverseRangeOrdered_int : T.ext n_slices_reverseRangeOrdered_int = none := rfl
theorem ext_slices_partialInsertionSortOrdered_int : T.ext n_slices_partialInsertionSortOrdered_int = none := rfl
theorem ext_cmp_Less_int : T.ext n_cmp_Less_int = none := rfl
theorem ext_slices_partitionEqualOrdered_int : T.ext n_slices_partitionEqualOrdered_int = none := rfl
theorem ext_slices_partitionOrdered_int : T.ext n_slices_partitionOrdered_int = none := rfl
theorem ext_slices_siftDownOrdered_int : T.ext n_slices_siftDownOrdered_int = none := rfl
theorem ext_slices_nextPowerOfTwo : T.ext n_slices_nextPowerOfTwo = none := rfl
theorem ext_slices_xorshift_Next : T.ext n_slices_xorshift_Next = none := rfl
theorem ext_slices_medianAdjacentOrdered_int : T.ext n_slices_medianAdjacentOrdered_int = none := rfl
theorem ext_slices_medianOrdered_int : T.ext n_slices_medianOrdered_int = none := rfl
theorem ext_cmp_isNaN_int : T.ext n_cmp_isNaN_int = none := rfl
theorem ext_slices_order2Ordered_int : T.ext n_slices_order2Ordered_int = none := rfl
end Go.Proofs.Ytbkabnhkclbepaa.K
