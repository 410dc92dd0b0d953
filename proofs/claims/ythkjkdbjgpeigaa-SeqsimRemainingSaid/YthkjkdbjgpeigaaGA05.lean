/- For every input the statement of this claim returns true: texts of its proof, joined (part 6). -/
import Derived.Test.YthkjkdbjgpeigaaProg
import Derived.KernelRfl
import Derived.Test.YthkjkdbjgpeigaaE3
import Derived.Test.YthkjkdbjgpeigaaSKA
set_option linter.unusedSectionVars false
set_option linter.unusedSimpArgs false
set_option linter.unusedVariables false
namespace Go.Proofs.Ythkjkdbjgpeigaa.K
open Go.Ev
set_option maxRecDepth 100000
theorem ok_law21_SeqsimOrdered : comp Try.prog { frz := [2], own := [9], loops := [([2, 5, 6, 9, 10], true), ([2, 5, 6, 9, 10, 11], true), ([2, 5, 6, 9, 10, 11, 12], true)] } n_law21_SeqsimOrdered = some c_law21_SeqsimOrdered := by kernel_rfl
theorem ok_law21_SeqsimPrefix : comp Try.prog { frz := [3] } n_law21_SeqsimPrefix = some c_law21_SeqsimPrefix := by kernel_rfl
theorem ok_law21_SeqsimCausal : comp Try.prog { frz := [2], loops := [([5, 6, 9], true), ([5, 6, 9, 10], true), ([5, 6, 9, 10, 11, 12, 13, 14], true), ([5, 6, 9, 10, 11, 12, 13, 14, 15], true)] } n_law21_SeqsimCausal = some c_law21_SeqsimCausal := by kernel_rfl
theorem ok_law21_SeqsimRemaining : comp Try.prog { frz := [2], loops := [([2, 5, 6, 8, 9, 10], true), ([2, 5, 6, 8, 9, 10, 11], true), ([2, 5, 6, 8, 9, 10, 11, 12], true)] } n_law21_SeqsimRemaining = some c_law21_SeqsimRemaining := by kernel_rfl
theorem ok_law21_head : comp Try.prog {  } n_law21_head = some c_law21_head := by kernel_rfl
theorem ok_law21_ok : comp Try.prog { frz := [1] } n_law21_ok = some c_law21_ok := by kernel_rfl
theorem ok_law21_Limit : comp Try.prog {  } n_law21_Limit = some c_law21_Limit := by kernel_rfl
theorem ok_seqsim_Run : comp Try.prog { frz := [2], mA := [15], mI := [18, 21] } n_seqsim_Run = some c_seqsim_Run := by kernel_rfl
theorem ok_seqsim_Commits : comp Try.prog { mA := [4] } n_seqsim_Commits = some c_seqsim_Commits := by kernel_rfl
theorem ok_ref03_CompareEvents : comp Try.prog { frz := [2, 3] } n_ref03_CompareEvents = some c_ref03_CompareEvents := by kernel_rfl
theorem ok_ref03_SameKey : comp Try.prog {  } n_ref03_SameKey = some c_ref03_SameKey := by kernel_rfl
theorem ok_ref21_Prefix : comp Try.prog { loops := [([0, 1, 5], true)] } n_ref21_Prefix = some c_ref21_Prefix := by kernel_rfl
theorem ok_seqsim_Pending : comp Try.prog { frz := [2], mA := [10], mI := [13] } n_seqsim_Pending = some c_seqsim_Pending := by kernel_rfl
theorem ok_law19_Base : comp Try.prog {  } n_law19_Base = some c_law19_Base := by kernel_rfl
theorem ok_law19_Great : comp Try.prog { frz := [1], loops := [([1, 3], true), ([1, 4], true)] } n_law19_Great = some c_law19_Great := by kernel_rfl
theorem ok_ref19_Check : comp Try.prog { frz := [1], loops := [([1, 3], true), ([1, 5], true), ([1, 5, 6], true)] } n_ref19_Check = some c_ref19_Check := by kernel_rfl
theorem ok_config_Check : comp Try.prog { frz := [1] } n_config_Check = some c_config_Check := by kernel_rfl
theorem ok_seqsim_start : comp Try.prog { frz := [1], mA := [9], ldF := [10], topZ := [7], holes := [1], fillC := [(9, 0)], ownS := [(7, 6)] } n_seqsim_start = some c_seqsim_start := by kernel_rfl
theorem ok_seqsim_simulator_run : comp Try.prog { mI := [12, 15], loops := [([0, 1], true)] } n_seqsim_simulator_run = some c_seqsim_simulator_run := by kernel_rfl
theorem ok_seqsim_simulator_ready : comp Try.prog {  } n_seqsim_simulator_ready = some c_seqsim_simulator_ready := by kernel_rfl
theorem ok_slices_Concat_Lapi_SimEvent_api_SimEvent : comp Try.prog { mA := [24], bad := true, loops := [([0, 3, 9, 10, 11], true), ([6, 25, 26, 27], false)] } n_slices_Concat_Lapi_SimEvent_api_SimEvent = some c_slices_Concat_Lapi_SimEvent_api_SimEvent := by kernel_rfl
theorem ok_ref03_Compare : comp Try.prog {  } n_ref03_Compare = some c_ref03_Compare := by kernel_rfl
theorem ok_ref03_CompareKeys : comp Try.prog { loops := [([0, 1, 5], true)] } n_ref03_CompareKeys = some c_ref03_CompareKeys := by kernel_rfl
theorem ok_ref03_SameEvents : comp Try.prog { loops := [([0, 1, 5], true)] } n_ref03_SameEvents = some c_ref03_SameEvents := by kernel_rfl
theorem ok_ref19_sizes : comp Try.prog { frz := [1], loops := [([1, 3], true)] } n_ref19_sizes = some c_ref19_sizes := by kernel_rfl
theorem ok_ref18_Check : comp Try.prog { loops := [([0, 1, 2, 3, 9], true), ([0, 2, 3, 10], true), ([0, 3, 11], true)] } n_ref18_Check = some c_ref18_Check := by kernel_rfl
theorem ok_config_checker_sizes : comp Try.prog { frz := [1], loops := [([3, 32, 33, 34], true)] } n_config_checker_sizes = some c_config_checker_sizes := by kernel_rfl
theorem ok_config_checker_lookahead : comp Try.prog { frz := [1] } n_config_checker_lookahead = some c_config_checker_lookahead := by kernel_rfl
theorem ok_config_checker_programs : comp Try.prog { frz := [1] } n_config_checker_programs = some c_config_checker_programs := by kernel_rfl
theorem ok_config_checker_starts : comp Try.prog { frz := [1] } n_config_checker_starts = some c_config_checker_starts := by kernel_rfl
theorem ok_config_first_func_api_Errno : comp Try.prog { loops := [([1, 8, 9, 10], true)] } n_config_first_func_api_Errno = some c_config_first_func_api_Errno := by kernel_rfl
theorem ok_config_Check_1 : comp Try.prog {  } n_config_Check_1 = some c_config_Check_1 := by kernel_rfl
theorem ok_config_States : comp Try.prog { frz := [1], topZ := [11], loops := [([3, 13, 14, 15], false), ([3, 4, 13, 14, 15, 20, 21, 22], false)] } n_config_States = some c_config_States := by kernel_rfl
theorem ok_config_Initial : comp Try.prog { frz := [1], frzv := [37], own := [3], loops := [([3, 9, 10, 11], true), ([3, 4, 9, 10, 11, 16, 17, 18], true)] } n_config_Initial = some c_config_Initial := by kernel_rfl
theorem ok_seqsim_simulator_commit : comp Try.prog { mA := [92], mI := [94], mF := [95], holes := [2], fillB := [(5, 2)], appB := [(38, 0), (38, 2)], ldB := [(25, 0), (27, 2)] } n_seqsim_simulator_commit = some c_seqsim_simulator_commit := by kernel_rfl
theorem ok_slices_Grow_Lapi_SimEvent_api_SimEvent : comp Try.prog { bad := true } n_slices_Grow_Lapi_SimEvent_api_SimEvent = some c_slices_Grow_Lapi_SimEvent_api_SimEvent := by kernel_rfl
theorem ok_ref03_SameEvent : comp Try.prog { frz := [2, 3] } n_ref03_SameEvent = some c_ref03_SameEvent := by kernel_rfl
theorem ok_ref18_shape : comp Try.prog { loops := [([0, 3], true)] } n_ref18_shape = some c_ref18_shape := by kernel_rfl
theorem ok_ref18_operands : comp Try.prog { frz := [3] } n_ref18_operands = some c_ref18_operands := by kernel_rfl
theorem ok_config_within : comp Try.prog {  } n_config_within = some c_config_within := by kernel_rfl
theorem ok_config_verdict : comp Try.prog {  } n_config_verdict = some c_config_verdict := by kernel_rfl
theorem ok_config_checker_programs_1 : comp Try.prog {  } n_config_checker_programs_1 = some c_config_checker_programs_1 := by kernel_rfl
theorem ok_config_first_Lapi_Op : comp Try.prog { loops := [([1, 8, 9, 10], true)] } n_config_first_Lapi_Op = some c_config_first_Lapi_Op := by kernel_rfl
theorem ok_config_checker_starts_1 : comp Try.prog {  } n_config_checker_starts_1 = some c_config_checker_starts_1 := by kernel_rfl
theorem ok_config_first_Lapi_Start : comp Try.prog { loops := [([1, 8, 9, 10], true)] } n_config_first_Lapi_Start = some c_config_first_Lapi_Start := by kernel_rfl
theorem ok_evkey_Child : comp Try.prog { mA := [6] } n_evkey_Child = some c_evkey_Child := by kernel_rfl
theorem ok_evkey_SortEvents : comp Try.prog { mA := [5], mI := [7] } n_evkey_SortEvents = some c_evkey_SortEvents := by kernel_rfl
theorem ok_process_Exec : comp Try.prog { frz := [3, 5], mA := [52], mI := [59, 82, 88], ldF := [80], ldx := [(96, 6), (100, 6), (104, 6)], ownB := [(56, (10, 6)), (56, (12, 1))] } n_process_Exec = some c_process_Exec := by kernel_rfl
theorem ok_seqsim_simulator_commit_1 : comp Try.prog { frz := [2] } n_seqsim_simulator_commit_1 = some c_seqsim_simulator_commit_1 := by kernel_rfl
theorem ok_slices_DeleteFunc_Lapi_SimEvent_api_SimEvent : comp Try.prog { mI := [10], loops := [([0, 1, 5, 6], true)] } n_slices_DeleteFunc_Lapi_SimEvent_api_SimEvent = some c_slices_DeleteFunc_Lapi_SimEvent_api_SimEvent := by kernel_rfl
theorem ok_ref18_delay : comp Try.prog {  } n_ref18_delay = some c_ref18_delay := by kernel_rfl
theorem ok_ref18_value : comp Try.prog {  } n_ref18_value = some c_ref18_value := by kernel_rfl
theorem ok_program_Check : comp Try.prog { loops := [([0, 33, 34, 35], true), ([0, 11, 33, 34, 35, 39, 40, 41], true)] } n_program_Check = some c_program_Check := by kernel_rfl
theorem ok_config_checker_starts_1_1 : comp Try.prog { frz := [2] } n_config_checker_starts_1_1 = some c_config_checker_starts_1_1 := by kernel_rfl
theorem ok_config_first_api_Start : comp Try.prog { loops := [([1, 8, 9, 10], true)] } n_config_first_api_Start = some c_config_first_api_Start := by kernel_rfl
theorem ok_slices_SortStableFunc_Lapi_SimEvent_api_SimEvent : comp Try.prog { mI := [8] } n_slices_SortStableFunc_Lapi_SimEvent_api_SimEvent = some c_slices_SortStableFunc_Lapi_SimEvent_api_SimEvent := by kernel_rfl
theorem ok_evkey_CompareEvents : comp Try.prog { frz := [2, 3] } n_evkey_CompareEvents = some c_evkey_CompareEvents := by kernel_rfl
theorem ok_process_execution_self : comp Try.prog {  } n_process_execution_self = some c_process_execution_self := by kernel_rfl
theorem ok_slices_Equal_Lint_int : comp Try.prog { loops := [([0, 1, 12, 13], true)] } n_slices_Equal_Lint_int = some c_slices_Equal_Lint_int := by kernel_rfl
theorem ok_process_execution_activate : comp Try.prog { mA := [6], mI := [10, 19, 44, 49], loops := [([0, 1, 4, 7], true)] } n_process_execution_activate = some c_process_execution_activate := by kernel_rfl
theorem ok_seqsim_simulator_commit_1_1 : comp Try.prog {  } n_seqsim_simulator_commit_1_1 = some c_seqsim_simulator_commit_1_1 := by kernel_rfl
theorem ok_slices_ContainsFunc_LLint_Lint : comp Try.prog {  } n_slices_ContainsFunc_LLint_Lint = some c_slices_ContainsFunc_LLint_Lint := by kernel_rfl
theorem ok_slices_IndexFunc_Lapi_SimEvent_api_SimEvent : comp Try.prog { loops := [([0, 1, 7, 8], true)] } n_slices_IndexFunc_Lapi_SimEvent_api_SimEvent = some c_slices_IndexFunc_Lapi_SimEvent_api_SimEvent := by kernel_rfl
theorem ok_program_within : comp Try.prog {  } n_program_within = some c_program_within := by kernel_rfl
theorem ok_program_checker_code : comp Try.prog { frz := [2, 3] } n_program_checker_code = some c_program_checker_code := by kernel_rfl
theorem ok_program_checker_operands : comp Try.prog { frz := [2, 3], ldF := [41, 60, 79] } n_program_checker_operands = some c_program_checker_operands := by kernel_rfl
theorem ok_program_checker_target : comp Try.prog { frz := [2, 3] } n_program_checker_target = some c_program_checker_target := by kernel_rfl
theorem ok_program_checker_early : comp Try.prog { frz := [2, 3] } n_program_checker_early = some c_program_checker_early := by kernel_rfl
theorem ok_slices_stableCmpFunc_api_SimEvent : comp Try.prog { mI := [18, 27, 43, 60], loops := [([0, 1, 2, 6, 7, 8], true), ([0, 1, 2, 6], true), ([0, 1, 2, 6, 7, 8], true)] } n_slices_stableCmpFunc_api_SimEvent = some c_slices_stableCmpFunc_api_SimEvent := by kernel_rfl
theorem ok_cmp_Compare_int : comp Try.prog {  } n_cmp_Compare_int = some c_cmp_Compare_int := by kernel_rfl
theorem ok_evkey_CompareKeys : comp Try.prog {  } n_evkey_CompareKeys = some c_evkey_CompareKeys := by kernel_rfl
theorem ok_evkey_first : comp Try.prog {  } n_evkey_first = some c_evkey_first := by kernel_rfl
theorem ok_process_instructions : comp Try.prog {  } n_process_instructions = some c_process_instructions := by kernel_rfl
theorem ok_slices_IndexFunc_LLint_Lint : comp Try.prog { loops := [([0, 1, 7, 8], true)] } n_slices_IndexFunc_LLint_Lint = some c_slices_IndexFunc_LLint_Lint := by kernel_rfl
theorem ok_slices_insertionSortCmpFunc_api_SimEvent : comp Try.prog { loops := [([0, 1, 2, 3, 8], true), ([0, 1, 2, 3, 8, 9], true)] } n_slices_insertionSortCmpFunc_api_SimEvent = some c_slices_insertionSortCmpFunc_api_SimEvent := by kernel_rfl
theorem ok_slices_symMergeCmpFunc_api_SimEvent : comp Try.prog { mI := [191, 205, 219], loops := [([0, 1, 4, 10, 11], true), ([0, 10, 13], true), ([0, 2, 4, 14, 15], true), ([0, 14, 17], true), ([0, 1, 2, 3, 4, 18, 19, 20, 21, 22], true)] } n_slices_symMergeCmpFunc_api_SimEvent = some c_slices_symMergeCmpFunc_api_SimEvent := by kernel_rfl
theorem ok_cmp_isNaN_int : comp Try.prog {  } n_cmp_isNaN_int = some c_cmp_isNaN_int := by kernel_rfl
theorem ok_slices_Compare_Lint_int : comp Try.prog { loops := [([0, 1, 9, 10, 11], true)] } n_slices_Compare_Lint_int = some c_slices_Compare_Lint_int := by kernel_rfl
theorem ok_cmp_Or_int : comp Try.prog { loops := [([3, 6, 7, 8], true)] } n_cmp_Or_int = some c_cmp_Or_int := by kernel_rfl
theorem ok_process_execution_hold : comp Try.prog { frz := [3], mI := [14, 15], ldF := [7] } n_process_execution_hold = some c_process_execution_hold := by kernel_rfl
theorem ok_process_execution_send : comp Try.prog { frz := [3], mI := [13] } n_process_execution_send = some c_process_execution_send := by kernel_rfl
theorem ok_process_execution_timer : comp Try.prog { frz := [3], mI := [7, 21, 22], mR := [9], ldF := [12] } n_process_execution_timer = some c_process_execution_timer := by kernel_rfl
theorem ok_process_execution_stop : comp Try.prog { frz := [3], mI := [7] } n_process_execution_stop = some c_process_execution_stop := by kernel_rfl
theorem ok_process_execution_spawn : comp Try.prog { frz := [3], mI := [33, 34], ldF := [30] } n_process_execution_spawn = some c_process_execution_spawn := by kernel_rfl
theorem ok_process_execution_add : comp Try.prog { frz := [3] } n_process_execution_add = some c_process_execution_add := by kernel_rfl
theorem ok_process_execution_less : comp Try.prog { frz := [3], mI := [17], ldF := [19] } n_process_execution_less = some c_process_execution_less := by kernel_rfl
theorem ok_process_execution_end : comp Try.prog { frz := [3] } n_process_execution_end = some c_process_execution_end := by kernel_rfl
theorem ok_slices_rotateCmpFunc_api_SimEvent : comp Try.prog { mI := [31, 46, 57], loops := [([0, 2, 4, 10, 11], true)] } n_slices_rotateCmpFunc_api_SimEvent = some c_slices_rotateCmpFunc_api_SimEvent := by kernel_rfl
theorem ok_process_execution_own : comp Try.prog {  } n_process_execution_own = some c_process_execution_own := by kernel_rfl
theorem ok_process_execution_create : comp Try.prog {  } n_process_execution_create = some c_process_execution_create := by kernel_rfl
theorem ok_slices_swapRangeCmpFunc_api_SimEvent : comp Try.prog { loops := [([0, 1, 2, 3, 10], true)] } n_slices_swapRangeCmpFunc_api_SimEvent = some c_slices_swapRangeCmpFunc_api_SimEvent := by kernel_rfl
theorem okx_slices_Clone_Lint_int : cloneOf Try.prog n_slices_Clone_Lint_int = some (1, 8) := by kernel_rfl
theorem okx_slices_Clone_Lapi_SimEvent_api_SimEvent : cloneOf Try.prog n_slices_Clone_Lapi_SimEvent_api_SimEvent = some (6, 64) := by kernel_rfl
theorem okx_slices_Clone_Lapi_Proc_api_Proc : cloneOf Try.prog n_slices_Clone_Lapi_Proc_api_Proc = some (4, 48) := by kernel_rfl
def codeL : List (Nat × CFunc) := [(n_law21_SeqsimOrdered, c_law21_SeqsimOrdered), (n_law21_SeqsimPrefix, c_law21_SeqsimPrefix), (n_law21_SeqsimCausal, c_law21_SeqsimCausal), (n_law21_SeqsimRemaining, c_law21_SeqsimRemaining), (n_law21_head, c_law21_head), (n_law21_ok, c_law21_ok), (n_law21_Limit, c_law21_Limit), (n_seqsim_Run, c_seqsim_Run), (n_seqsim_Commits, c_seqsim_Commits), (n_ref03_CompareEvents, c_ref03_CompareEvents), (n_ref03_SameKey, c_ref03_SameKey), (n_ref21_Prefix, c_ref21_Prefix), (n_seqsim_Pending, c_seqsim_Pending), (n_law19_Base, c_law19_Base), (n_law19_Great, c_law19_Great), (n_ref19_Check, c_ref19_Check), (n_config_Check, c_config_Check), (n_seqsim_start, c_seqsim_start), (n_seqsim_simulator_run, c_seqsim_simulator_run), (n_seqsim_simulator_ready, c_seqsim_simulator_ready), (n_slices_Concat_Lapi_SimEvent_api_SimEvent, c_slices_Concat_Lapi_SimEvent_api_SimEvent), (n_ref03_Compare, c_ref03_Compare), (n_ref03_CompareKeys, c_ref03_CompareKeys), (n_ref03_SameEvents, c_ref03_SameEvents), (n_ref19_sizes, c_ref19_sizes), (n_ref18_Check, c_ref18_Check), (n_config_checker_sizes, c_config_checker_sizes), (n_config_checker_lookahead, c_config_checker_lookahead), (n_config_checker_programs, c_config_checker_programs), (n_config_checker_starts, c_config_checker_starts), (n_config_first_func_api_Errno, c_config_first_func_api_Errno), (n_config_Check_1, c_config_Check_1), (n_config_States, c_config_States), (n_config_Initial, c_config_Initial), (n_seqsim_simulator_commit, c_seqsim_simulator_commit), (n_slices_Grow_Lapi_SimEvent_api_SimEvent, c_slices_Grow_Lapi_SimEvent_api_SimEvent), (n_ref03_SameEvent, c_ref03_SameEvent), (n_ref18_shape, c_ref18_shape), (n_ref18_operands, c_ref18_operands), (n_config_within, c_config_within), (n_config_verdict, c_config_verdict), (n_config_checker_programs_1, c_config_checker_programs_1), (n_config_first_Lapi_Op, c_config_first_Lapi_Op), (n_config_checker_starts_1, c_config_checker_starts_1), (n_config_first_Lapi_Start, c_config_first_Lapi_Start), (n_evkey_Child, c_evkey_Child), (n_evkey_SortEvents, c_evkey_SortEvents), (n_process_Exec, c_process_Exec), (n_seqsim_simulator_commit_1, c_seqsim_simulator_commit_1), (n_slices_DeleteFunc_Lapi_SimEvent_api_SimEvent, c_slices_DeleteFunc_Lapi_SimEvent_api_SimEvent), (n_ref18_delay, c_ref18_delay), (n_ref18_value, c_ref18_value), (n_program_Check, c_program_Check), (n_config_checker_starts_1_1, c_config_checker_starts_1_1), (n_config_first_api_Start, c_config_first_api_Start), (n_slices_SortStableFunc_Lapi_SimEvent_api_SimEvent, c_slices_SortStableFunc_Lapi_SimEvent_api_SimEvent), (n_evkey_CompareEvents, c_evkey_CompareEvents), (n_process_execution_self, c_process_execution_self), (n_slices_Equal_Lint_int, c_slices_Equal_Lint_int), (n_process_execution_activate, c_process_execution_activate), (n_seqsim_simulator_commit_1_1, c_seqsim_simulator_commit_1_1), (n_slices_ContainsFunc_LLint_Lint, c_slices_ContainsFunc_LLint_Lint), (n_slices_IndexFunc_Lapi_SimEvent_api_SimEvent, c_slices_IndexFunc_Lapi_SimEvent_api_SimEvent), (n_program_within, c_program_within), (n_program_checker_code, c_program_checker_code), (n_program_checker_operands, c_program_checker_operands), (n_program_checker_target, c_program_checker_target), (n_program_checker_early, c_program_checker_early), (n_slices_stableCmpFunc_api_SimEvent, c_slices_stableCmpFunc_api_SimEvent), (n_cmp_Compare_int, c_cmp_Compare_int), (n_evkey_CompareKeys, c_evkey_CompareKeys), (n_evkey_first, c_evkey_first), (n_process_instructions, c_process_instructions), (n_slices_IndexFunc_LLint_Lint, c_slices_IndexFunc_LLint_Lint), (n_slices_insertionSortCmpFunc_api_SimEvent, c_slices_insertionSortCmpFunc_api_SimEvent), (n_slices_symMergeCmpFunc_api_SimEvent, c_slices_symMergeCmpFunc_api_SimEvent), (n_cmp_isNaN_int, c_cmp_isNaN_int), (n_slices_Compare_Lint_int, c_slices_Compare_Lint_int), (n_cmp_Or_int, c_cmp_Or_int), (n_process_execution_hold, c_process_execution_hold), (n_process_execution_send, c_process_execution_send), (n_process_execution_timer, c_process_execution_timer), (n_process_execution_stop, c_process_execution_stop), (n_process_execution_spawn, c_process_execution_spawn), (n_process_execution_add, c_process_execution_add), (n_process_execution_less, c_process_execution_less), (n_process_execution_end, c_process_execution_end), (n_slices_rotateCmpFunc_api_SimEvent, c_slices_rotateCmpFunc_api_SimEvent), (n_process_execution_own, c_process_execution_own), (n_process_execution_create, c_process_execution_create), (n_slices_swapRangeCmpFunc_api_SimEvent, c_slices_swapRangeCmpFunc_api_SimEvent)]
def extL : List (Nat × (Nat × Nat)) := [(n_slices_Clone_Lint_int, (1, 8)), (n_slices_Clone_Lapi_SimEvent_api_SimEvent, (6, 64)), (n_slices_Clone_Lapi_Proc_api_Proc, (4, 48))]
def assoc {α : Type} : List (Nat × α) → Nat → Option α
  | [], _ => none
  | (k, x) :: l, i => if k = i then some x else assoc l i
theorem assoc_mem {α : Type} : ∀ {l : List (Nat × α)} {i : Nat} {x : α}, assoc l i = some x → (i, x) ∈ l
  | [], _, _, h => by simp [assoc] at h
  | (k, y) :: l, i, x, h => by
    simp only [assoc] at h
    split at h
    · rename_i hk; subst hk; cases h; simp
    · exact List.mem_cons_of_mem _ (assoc_mem h)
def T : Tab := { code := assoc codeL, ext := fun k => (assoc extL k).map fun p => cloneF p.1 p.2 }
theorem codeL_ok : ∀ x ∈ codeL, ∃ h, comp Try.prog h x.1 = some x.2 := by
  intro x hx
  simp only [codeL, List.mem_cons, List.not_mem_nil, or_false] at hx
  rcases hx with rfl | rfl | rfl | rfl | rfl | rfl | rfl | rfl | rfl | rfl | rfl | rfl | rfl | rfl | rfl | rfl | rfl | rfl | rfl | rfl | rfl | rfl | rfl | rfl | rfl | rfl | rfl | rfl | rfl | rfl | rfl | rfl | rfl | rfl | rfl | rfl | rfl | rfl | rfl | rfl | rfl | rfl | rfl | rfl | rfl | rfl | rfl | rfl | rfl | rfl | rfl | rfl | rfl | rfl | rfl | rfl | rfl | rfl | rfl | rfl | rfl | rfl | rfl | rfl | rfl | rfl | rfl | rfl | rfl | rfl | rfl | rfl | rfl | rfl | rfl | rfl | rfl | rfl | rfl | rfl | rfl | rfl | rfl | rfl | rfl | rfl | rfl | rfl | rfl | rfl | rfl
  · exact ⟨_, ok_law21_SeqsimOrdered⟩
  · exact ⟨_, ok_law21_SeqsimPrefix⟩
  · exact ⟨_, ok_law21_SeqsimCausal⟩
  · exact ⟨_, ok_law21_SeqsimRemaining⟩
  · exact ⟨_, ok_law21_head⟩
  · exact ⟨_, ok_law21_ok⟩
  · exact ⟨_, ok_law21_Limit⟩
  · exact ⟨_, ok_seqsim_Run⟩
  · exact ⟨_, ok_seqsim_Commits⟩
  · exact ⟨_, ok_ref03_CompareEvents⟩
  · exact ⟨_, ok_ref03_SameKey⟩
  · exact ⟨_, ok_ref21_Prefix⟩
  · exact ⟨_, ok_seqsim_Pending⟩
  · exact ⟨_, ok_law19_Base⟩
  · exact ⟨_, ok_law19_Great⟩
  · exact ⟨_, ok_ref19_Check⟩
  · exact ⟨_, ok_config_Check⟩
  · exact ⟨_, ok_seqsim_start⟩
  · exact ⟨_, ok_seqsim_simulator_run⟩
  · exact ⟨_, ok_seqsim_simulator_ready⟩
  · exact ⟨_, ok_slices_Concat_Lapi_SimEvent_api_SimEvent⟩
  · exact ⟨_, ok_ref03_Compare⟩
  · exact ⟨_, ok_ref03_CompareKeys⟩
  · exact ⟨_, ok_ref03_SameEvents⟩
  · exact ⟨_, ok_ref19_sizes⟩
  · exact ⟨_, ok_ref18_Check⟩
  · exact ⟨_, ok_config_checker_sizes⟩
  · exact ⟨_, ok_config_checker_lookahead⟩
  · exact ⟨_, ok_config_checker_programs⟩
  · exact ⟨_, ok_config_checker_starts⟩
  · exact ⟨_, ok_config_first_func_api_Errno⟩
  · exact ⟨_, ok_config_Check_1⟩
  · exact ⟨_, ok_config_States⟩
  · exact ⟨_, ok_config_Initial⟩
  · exact ⟨_, ok_seqsim_simulator_commit⟩
  · exact ⟨_, ok_slices_Grow_Lapi_SimEvent_api_SimEvent⟩
  · exact ⟨_, ok_ref03_SameEvent⟩
  · exact ⟨_, ok_ref18_shape⟩
  · exact ⟨_, ok_ref18_operands⟩
  · exact ⟨_, ok_config_within⟩
  · exact ⟨_, ok_config_verdict⟩
  · exact ⟨_, ok_config_checker_programs_1⟩
  · exact ⟨_, ok_config_first_Lapi_Op⟩
  · exact ⟨_, ok_config_checker_starts_1⟩
  · exact ⟨_, ok_config_first_Lapi_Start⟩
  · exact ⟨_, ok_evkey_Child⟩
  · exact ⟨_, ok_evkey_SortEvents⟩
  · exact ⟨_, ok_process_Exec⟩
  · exact ⟨_, ok_seqsim_simulator_commit_1⟩
  · exact ⟨_, ok_slices_DeleteFunc_Lapi_SimEvent_api_SimEvent⟩
  · exact ⟨_, ok_ref18_delay⟩
  · exact ⟨_, ok_ref18_value⟩
  · exact ⟨_, ok_program_Check⟩
  · exact ⟨_, ok_config_checker_starts_1_1⟩
  · exact ⟨_, ok_config_first_api_Start⟩
  · exact ⟨_, ok_slices_SortStableFunc_Lapi_SimEvent_api_SimEvent⟩
  · exact ⟨_, ok_evkey_CompareEvents⟩
  · exact ⟨_, ok_process_execution_self⟩
  · exact ⟨_, ok_slices_Equal_Lint_int⟩
  · exact ⟨_, ok_process_execution_activate⟩
  · exact ⟨_, ok_seqsim_simulator_commit_1_1⟩
  · exact ⟨_, ok_slices_ContainsFunc_LLint_Lint⟩
  · exact ⟨_, ok_slices_IndexFunc_Lapi_SimEvent_api_SimEvent⟩
  · exact ⟨_, ok_program_within⟩
  · exact ⟨_, ok_program_checker_code⟩
  · exact ⟨_, ok_program_checker_operands⟩
  · exact ⟨_, ok_program_checker_target⟩
  · exact ⟨_, ok_program_checker_early⟩
  · exact ⟨_, ok_slices_stableCmpFunc_api_SimEvent⟩
  · exact ⟨_, ok_cmp_Compare_int⟩
  · exact ⟨_, ok_evkey_CompareKeys⟩
  · exact ⟨_, ok_evkey_first⟩
  · exact ⟨_, ok_process_instructions⟩
  · exact ⟨_, ok_slices_IndexFunc_LLint_Lint⟩
  · exact ⟨_, ok_slices_insertionSortCmpFunc_api_SimEvent⟩
  · exact ⟨_, ok_slices_symMergeCmpFunc_api_SimEvent⟩
  · exact ⟨_, ok_cmp_isNaN_int⟩
  · exact ⟨_, ok_slices_Compare_Lint_int⟩
  · exact ⟨_, ok_cmp_Or_int⟩
  · exact ⟨_, ok_process_execution_hold⟩
  · exact ⟨_, ok_process_execution_send⟩
  · exact ⟨_, ok_process_execution_timer⟩
  · exact ⟨_, ok_process_execution_stop⟩
  · exact ⟨_, ok_process_execution_spawn⟩
  · exact ⟨_, ok_process_execution_add⟩
  · exact ⟨_, ok_process_execution_less⟩
  · exact ⟨_, ok_process_execution_end⟩
  · exact ⟨_, ok_slices_rotateCmpFunc_api_SimEvent⟩
  · exact ⟨_, ok_process_execution_own⟩
  · exact ⟨_, ok_process_execution_create⟩
  · exact ⟨_, ok_slices_swapRangeCmpFunc_api_SimEvent⟩
theorem extL_ok : ∀ x ∈ extL, cloneOf Try.prog x.1 = some x.2 := by
  intro x hx
  simp only [extL, List.mem_cons, List.not_mem_nil, or_false] at hx
  rcases hx with rfl | rfl | rfl
  · exact okx_slices_Clone_Lint_int
  · exact okx_slices_Clone_Lapi_SimEvent_api_SimEvent
  · exact okx_slices_Clone_Lapi_Proc_api_Proc
theorem mixed : Try.prog.follows .mixedOrders = true := by kernel_rfl
theorem T_ok : TabOk Try.prog T where
  code k f h := codeL_ok _ (assoc_mem h)
  ext k F h := by
    simp only [T, Option.map_eq_some_iff] at h
    obtain ⟨p, h1, rfl⟩ := h
    exact clone_ok mixed (extL_ok _ (assoc_mem h1))
  mixed := mixed
theorem code_law21_SeqsimOrdered : T.code n_law21_SeqsimOrdered = some c_law21_SeqsimOrdered := rfl
theorem code_law21_SeqsimPrefix : T.code n_law21_SeqsimPrefix = some c_law21_SeqsimPrefix := rfl
theorem code_law21_SeqsimCausal : T.code n_law21_SeqsimCausal = some c_law21_SeqsimCausal := rfl
theorem code_law21_SeqsimRemaining : T.code n_law21_SeqsimRemaining = some c_law21_SeqsimRemaining := rfl
theorem code_law21_head : T.code n_law21_head = some c_law21_head := rfl
theorem code_law21_ok : T.code n_law21_ok = some c_law21_ok := rfl
theorem code_law21_Limit : T.code n_law21_Limit = some c_law21_Limit := rfl
theorem code_seqsim_Run : T.code n_seqsim_Run = some c_seqsim_Run := rfl
theorem code_seqsim_Commits : T.code n_seqsim_Commits = some c_seqsim_Commits := rfl
theorem code_ref03_CompareEvents : T.code n_ref03_CompareEvents = some c_ref03_CompareEvents := rfl
theorem code_ref03_SameKey : T.code n_ref03_SameKey = some c_ref03_SameKey := rfl
theorem code_ref21_Prefix : T.code n_ref21_Prefix = some c_ref21_Prefix := rfl
theorem code_seqsim_Pending : T.code n_seqsim_Pending = some c_seqsim_Pending := rfl
theorem code_law19_Base : T.code n_law19_Base = some c_law19_Base := rfl
theorem code_law19_Great : T.code n_law19_Great = some c_law19_Great := rfl
theorem code_ref19_Check : T.code n_ref19_Check = some c_ref19_Check := rfl
theorem code_config_Check : T.code n_config_Check = some c_config_Check := rfl
theorem code_seqsim_start : T.code n_seqsim_start = some c_seqsim_start := rfl
theorem code_seqsim_simulator_run : T.code n_seqsim_simulator_run = some c_seqsim_simulator_run := rfl
theorem code_seqsim_simulator_ready : T.code n_seqsim_simulator_ready = some c_seqsim_simulator_ready := rfl
theorem code_slices_Concat_Lapi_SimEvent_api_SimEvent : T.code n_slices_Concat_Lapi_SimEvent_api_SimEvent = some c_slices_Concat_Lapi_SimEvent_api_SimEvent := rfl
theorem code_ref03_Compare : T.code n_ref03_Compare = some c_ref03_Compare := rfl
theorem code_ref03_CompareKeys : T.code n_ref03_CompareKeys = some c_ref03_CompareKeys := rfl
theorem code_ref03_SameEvents : T.code n_ref03_SameEvents = some c_ref03_SameEvents := rfl
theorem code_ref19_sizes : T.code n_ref19_sizes = some c_ref19_sizes := rfl
theorem code_ref18_Check : T.code n_ref18_Check = some c_ref18_Check := rfl
theorem code_config_checker_sizes : T.code n_config_checker_sizes = some c_config_checker_sizes := rfl
theorem code_config_checker_lookahead : T.code n_config_checker_lookahead = some c_config_checker_lookahead := rfl
theorem code_config_checker_programs : T.code n_config_checker_programs = some c_config_checker_programs := rfl
theorem code_config_checker_starts : T.code n_config_checker_starts = some c_config_checker_starts := rfl
theorem code_config_first_func_api_Errno : T.code n_config_first_func_api_Errno = some c_config_first_func_api_Errno := rfl
theorem code_config_Check_1 : T.code n_config_Check_1 = some c_config_Check_1 := rfl
theorem code_config_States : T.code n_config_States = some c_config_States := rfl
theorem code_config_Initial : T.code n_config_Initial = some c_config_Initial := rfl
theorem code_seqsim_simulator_commit : T.code n_seqsim_simulator_commit = some c_seqsim_simulator_commit := rfl
theorem code_slices_Grow_Lapi_SimEvent_api_SimEvent : T.code n_slices_Grow_Lapi_SimEvent_api_SimEvent = some c_slices_Grow_Lapi_SimEvent_api_SimEvent := rfl
theorem code_ref03_SameEvent : T.code n_ref03_SameEvent = some c_ref03_SameEvent := rfl
theorem code_ref18_shape : T.code n_ref18_shape = some c_ref18_shape := rfl
theorem code_ref18_operands : T.code n_ref18_operands = some c_ref18_operands := rfl
theorem code_config_within : T.code n_config_within = some c_config_within := rfl
theorem code_config_verdict : T.code n_config_verdict = some c_config_verdict := rfl
theorem code_config_checker_programs_1 : T.code n_config_checker_programs_1 = some c_config_checker_programs_1 := rfl
theorem code_config_first_Lapi_Op : T.code n_config_first_Lapi_Op = some c_config_first_Lapi_Op := rfl
theorem code_config_checker_starts_1 : T.code n_config_checker_starts_1 = some c_config_checker_starts_1 := rfl
theorem code_config_first_Lapi_Start : T.code n_config_first_Lapi_Start = some c_config_first_Lapi_Start := rfl
theorem code_evkey_Child : T.code n_evkey_Child = some c_evkey_Child := rfl
theorem code_evkey_SortEvents : T.code n_evkey_SortEvents = some c_evkey_SortEvents := rfl
theorem code_process_Exec : T.code n_process_Exec = some c_process_Exec := rfl
theorem code_seqsim_simulator_commit_1 : T.code n_seqsim_simulator_commit_1 = some c_seqsim_simulator_commit_1 := rfl
theorem code_slices_DeleteFunc_Lapi_SimEvent_api_SimEvent : T.code n_slices_DeleteFunc_Lapi_SimEvent_api_SimEvent = some c_slices_DeleteFunc_Lapi_SimEvent_api_SimEvent := rfl
theorem code_ref18_delay : T.code n_ref18_delay = some c_ref18_delay := rfl
theorem code_ref18_value : T.code n_ref18_value = some c_ref18_value := rfl
theorem code_program_Check : T.code n_program_Check = some c_program_Check := rfl
theorem code_config_checker_starts_1_1 : T.code n_config_checker_starts_1_1 = some c_config_checker_starts_1_1 := rfl
theorem code_config_first_api_Start : T.code n_config_first_api_Start = some c_config_first_api_Start := rfl
theorem code_slices_SortStableFunc_Lapi_SimEvent_api_SimEvent : T.code n_slices_SortStableFunc_Lapi_SimEvent_api_SimEvent = some c_slices_SortStableFunc_Lapi_SimEvent_api_SimEvent := rfl
theorem code_evkey_CompareEvents : T.code n_evkey_CompareEvents = some c_evkey_CompareEvents := rfl
theorem code_process_execution_self : T.code n_process_execution_self = some c_process_execution_self := rfl
theorem code_slices_Equal_Lint_int : T.code n_slices_Equal_Lint_int = some c_slices_Equal_Lint_int := rfl
theorem code_process_execution_activate : T.code n_process_execution_activate = some c_process_execution_activate := rfl
theorem code_seqsim_simulator_commit_1_1 : T.code n_seqsim_simulator_commit_1_1 = some c_seqsim_simulator_commit_1_1 := rfl
theorem code_slices_ContainsFunc_LLint_Lint : T.code n_slices_ContainsFunc_LLint_Lint = some c_slices_ContainsFunc_LLint_Lint := rfl
theorem code_slices_IndexFunc_Lapi_SimEvent_api_SimEvent : T.code n_slices_IndexFunc_Lapi_SimEvent_api_SimEvent = some c_slices_IndexFunc_Lapi_SimEvent_api_SimEvent := rfl
theorem code_program_within : T.code n_program_within = some c_program_within := rfl
theorem code_program_checker_code : T.code n_program_checker_code = some c_program_checker_code := rfl
theorem code_program_checker_operands : T.code n_program_checker_operands = some c_program_checker_operands := rfl
theorem code_program_checker_target : T.code n_program_checker_target = some c_program_checker_target := rfl
theorem code_program_checker_early : T.code n_program_checker_early = some c_program_checker_early := rfl
theorem code_slices_stableCmpFunc_api_SimEvent : T.code n_slices_stableCmpFunc_api_SimEvent = some c_slices_stableCmpFunc_api_SimEvent := rfl
theorem code_cmp_Compare_int : T.code n_cmp_Compare_int = some c_cmp_Compare_int := rfl
theorem code_evkey_CompareKeys : T.code n_evkey_CompareKeys = some c_evkey_CompareKeys := rfl
theorem code_evkey_first : T.code n_evkey_first = some c_evkey_first := rfl
theorem code_process_instructions : T.code n_process_instructions = some c_process_instructions := rfl
theorem code_slices_IndexFunc_LLint_Lint : T.code n_slices_IndexFunc_LLint_Lint = some c_slices_IndexFunc_LLint_Lint := rfl
theorem code_slices_insertionSortCmpFunc_api_SimEvent : T.code n_slices_insertionSortCmpFunc_api_SimEvent = some c_slices_insertionSortCmpFunc_api_SimEvent := rfl
theorem code_slices_symMergeCmpFunc_api_SimEvent : T.code n_slices_symMergeCmpFunc_api_SimEvent = some c_slices_symMergeCmpFunc_api_SimEvent := rfl
theorem code_cmp_isNaN_int : T.code n_cmp_isNaN_int = some c_cmp_isNaN_int := rfl
theorem code_slices_Compare_Lint_int : T.code n_slices_Compare_Lint_int = some c_slices_Compare_Lint_int := rfl
theorem code_cmp_Or_int : T.code n_cmp_Or_int = some c_cmp_Or_int := rfl
theorem code_process_execution_hold : T.code n_process_execution_hold = some c_process_execution_hold := rfl
theorem code_process_execution_send : T.code n_process_execution_send = some c_process_execution_send := rfl
theorem code_process_execution_timer : T.code n_process_execution_timer = some c_process_execution_timer := rfl
theorem code_process_execution_stop : T.code n_process_execution_stop = some c_process_execution_stop := rfl
theorem code_process_execution_spawn : T.code n_process_execution_spawn = some c_process_execution_spawn := rfl
theorem code_process_execution_add : T.code n_process_execution_add = some c_process_execution_add := rfl
theorem code_process_execution_less : T.code n_process_execution_less = some c_process_execution_less := rfl
theorem code_process_execution_end : T.code n_process_execution_end = some c_process_execution_end := rfl
theorem code_slices_rotateCmpFunc_api_SimEvent : T.code n_slices_rotateCmpFunc_api_SimEvent = some c_slices_rotateCmpFunc_api_SimEvent := rfl
theorem code_process_execution_own : T.code n_process_execution_own = some c_process_execution_own := rfl
theorem code_process_execution_create : T.code n_process_execution_create = some c_process_execution_create := rfl
theorem code_slices_swapRangeCmpFunc_api_SimEvent : T.code n_slices_swapRangeCmpFunc_api_SimEvent = some c_slices_swapRangeCmpFunc_api_SimEvent := rfl
theorem ext_law21_SeqsimOrdered : T.ext n_law21_SeqsimOrdered = none := rfl
theorem ext_law21_SeqsimPrefix : T.ext n_law21_SeqsimPrefix = none := rfl
theorem ext_law21_SeqsimCausal : T.ext n_law21_SeqsimCausal = none := rfl
theorem ext_law21_SeqsimRemaining : T.ext n_law21_SeqsimRemaining = none := rfl
theorem ext_law21_head : T.ext n_law21_head = none := rfl
theorem ext_law21_ok : T.ext n_law21_ok = none := rfl
theorem ext_law21_Limit : T.ext n_law21_Limit = none := rfl
theorem ext_seqsim_Run : T.ext n_seqsim_Run = none := rfl
theorem ext_seqsim_Commits : T.ext n_seqsim_Commits = none := rfl
theorem ext_ref03_CompareEvents : T.ext n_ref03_CompareEvents = none := rfl
theorem ext_ref03_SameKey : T.ext n_ref03_SameKey = none := rfl
theorem ext_ref21_Prefix : T.ext n_ref21_Prefix = none := rfl
theorem ext_seqsim_Pending : T.ext n_seqsim_Pending = none := rfl
theorem ext_law19_Base : T.ext n_law19_Base = none := rfl
theorem ext_law19_Great : T.ext n_law19_Great = none := rfl
theorem ext_ref19_Check : T.ext n_ref19_Check = none := rfl
theorem ext_config_Check : T.ext n_config_Check = none := rfl
theorem ext_seqsim_start : T.ext n_seqsim_start = none := rfl
theorem ext_seqsim_simulator_run : T.ext n_seqsim_simulator_run = none := rfl
theorem ext_seqsim_simulator_ready : T.ext n_seqsim_simulator_ready = none := rfl
theorem ext_slices_Concat_Lapi_SimEvent_api_SimEvent : T.ext n_slices_Concat_Lapi_SimEvent_api_SimEvent = none := rfl
theorem ext_ref03_Compare : T.ext n_ref03_Compare = none := rfl
theorem ext_ref03_CompareKeys : T.ext n_ref03_CompareKeys = none := rfl
theorem ext_ref03_SameEvents : T.ext n_ref03_SameEvents = none := rfl
theorem ext_ref19_sizes : T.ext n_ref19_sizes = none := rfl
theorem ext_ref18_Check : T.ext n_ref18_Check = none := rfl
theorem ext_config_checker_sizes : T.ext n_config_checker_sizes = none := rfl
theorem ext_config_checker_lookahead : T.ext n_config_checker_lookahead = none := rfl
theorem ext_config_checker_programs : T.ext n_config_checker_programs = none := rfl
theorem ext_config_checker_starts : T.ext n_config_checker_starts = none := rfl
theorem ext_config_first_func_api_Errno : T.ext n_config_first_func_api_Errno = none := rfl
theorem ext_config_Check_1 : T.ext n_config_Check_1 = none := rfl
theorem ext_config_States : T.ext n_config_States = none := rfl
theorem ext_config_Initial : T.ext n_config_Initial = none := rfl
theorem ext_seqsim_simulator_commit : T.ext n_seqsim_simulator_commit = none := rfl
theorem ext_slices_Grow_Lapi_SimEvent_api_SimEvent : T.ext n_slices_Grow_Lapi_SimEvent_api_SimEvent = none := rfl
theorem ext_ref03_SameEvent : T.ext n_ref03_SameEvent = none := rfl
theorem ext_ref18_shape : T.ext n_ref18_shape = none := rfl
theorem ext_ref18_operands : T.ext n_ref18_operands = none := rfl
theorem ext_config_within : T.ext n_config_within = none := rfl
theorem ext_config_verdict : T.ext n_config_verdict = none := rfl
theorem ext_config_checker_programs_1 : T.ext n_config_checker_programs_1 = none := rfl
theorem ext_config_first_Lapi_Op : T.ext n_config_first_Lapi_Op = none := rfl
theorem ext_config_checker_starts_1 : T.ext n_config_checker_starts_1 = none := rfl
theorem ext_config_first_Lapi_Start : T.ext n_config_first_Lapi_Start = none := rfl
theorem ext_evkey_Child : T.ext n_evkey_Child = none := rfl
theorem ext_evkey_SortEvents : T.ext n_evkey_SortEvents = none := rfl
theorem ext_process_Exec : T.ext n_process_Exec = none := rfl
theorem ext_seqsim_simulator_commit_1 : T.ext n_seqsim_simulator_commit_1 = none := rfl
theorem ext_slices_DeleteFunc_Lapi_SimEvent_api_SimEvent : T.ext n_slices_DeleteFunc_Lapi_SimEvent_api_SimEvent = none := rfl
theorem ext_ref18_delay : T.ext n_ref18_delay = none := rfl
theorem ext_ref18_value : T.ext n_ref18_value = none := rfl
theorem ext_program_Check : T.ext n_program_Check = none := rfl
theorem ext_config_checker_starts_1_1 : T.ext n_config_checker_starts_1_1 = none := rfl
theorem ext_config_first_api_Start : T.ext n_config_first_api_Start = none := rfl
theorem ext_slices_SortStableFunc_Lapi_SimEvent_api_SimEvent : T.ext n_slices_SortStableFunc_Lapi_SimEvent_api_SimEvent = none := rfl
theorem ext_evkey_CompareEvents : T.ext n_evkey_CompareEvents = none := rfl
theorem ext_process_execution_self : T.ext n_process_execution_self = none := rfl
theorem ext_slices_Equal_Lint_int : T.ext n_slices_Equal_Lint_int = none := rfl
theorem ext_process_execution_activate : T.ext n_process_execution_activate = none := rfl
theorem ext_seqsim_simulator_commit_1_1 : T.ext n_seqsim_simulator_commit_1_1 = none := rfl
theorem ext_slices_ContainsFunc_LLint_Lint : T.ext n_slices_ContainsFunc_LLint_Lint = none := rfl
theorem ext_slices_IndexFunc_Lapi_SimEvent_api_SimEvent : T.ext n_slices_IndexFunc_Lapi_SimEvent_api_SimEvent = none := rfl
theorem ext_program_within : T.ext n_program_within = none := rfl
theorem ext_program_checker_code : T.ext n_program_checker_code = none := rfl
theorem ext_program_checker_operands : T.ext n_program_checker_operands = none := rfl
theorem ext_program_checker_target : T.ext n_program_checker_target = none := rfl
theorem ext_program_checker_early : T.ext n_program_checker_early = none := rfl
theorem ext_slices_stableCmpFunc_api_SimEvent : T.ext n_slices_stableCmpFunc_api_SimEvent = none := rfl
theorem ext_cmp_Compare_int : T.ext n_cmp_Compare_int = none := rfl
theorem ext_evkey_CompareKeys : T.ext n_evkey_CompareKeys = none := rfl
theorem ext_evkey_first : T.ext n_evkey_first = none := rfl
theorem ext_process_instructions : T.ext n_process_instructions = none := rfl
theorem ext_slices_IndexFunc_LLint_Lint : T.ext n_slices_IndexFunc_LLint_Lint = none := rfl
theorem ext_slices_insertionSortCmpFunc_api_SimEvent : T.ext n_slices_insertionSortCmpFunc_api_SimEvent = none := rfl
theorem ext_slices_symMergeCmpFunc_api_SimEvent : T.ext n_slices_symMergeCmpFunc_api_SimEvent = none := rfl
theorem ext_cmp_isNaN_int : T.ext n_cmp_isNaN_int = none := rfl
theorem ext_slices_Compare_Lint_int : T.ext n_slices_Compare_Lint_int = none := rfl
theorem ext_cmp_Or_int : T.ext n_cmp_Or_int = none := rfl
theorem ext_process_execution_hold : T.ext n_process_execution_hold = none := rfl
theorem ext_process_execution_send : T.ext n_process_execution_send = none := rfl
theorem ext_process_execution_timer : T.ext n_process_execution_timer = none := rfl
theorem ext_process_execution_stop : T.ext n_process_execution_stop = none := rfl
theorem ext_process_execution_spawn : T.ext n_process_execution_spawn = none := rfl
theorem ext_process_execution_add : T.ext n_process_execution_add = none := rfl
theorem ext_process_execution_less : T.ext n_process_execution_less = none := rfl
theorem ext_process_execution_end : T.ext n_process_execution_end = none := rfl
theorem ext_slices_rotateCmpFunc_api_SimEvent : T.ext n_slices_rotateCmpFunc_api_SimEvent = none := rfl
theorem ext_process_execution_own : T.ext n_process_execution_own = none := rfl
theorem ext_process_execution_create : T.ext n_process_execution_create = none := rfl
theorem ext_slices_swapRangeCmpFunc_api_SimEvent : T.ext n_slices_swapRangeCmpFunc_api_SimEvent = none := rfl
theorem ext_slices_Clone_Lint_int : T.ext n_slices_Clone_Lint_int = some (cloneF 1 8) := rfl
theorem ext_slices_Clone_Lapi_SimEvent_api_SimEvent : T.ext n_slices_Clone_Lapi_SimEvent_api_SimEvent = some (cloneF 6 64) := rfl
theorem ext_slices_Clone_Lapi_Proc_api_Proc : T.ext n_slices_Clone_Lapi_Proc_api_Proc = some (cloneF 4 48) := rfl
end Go.Proofs.Ythkjkdbjgpeigaa.K
namespace Go.Proofs.Ythkjkdbjgpeigaa.K
open Go.Ev
set_option linter.unusedSimpArgs false
set_option linter.unusedVariables false
def intC (n : Int) : List AV := [(.v (.int .i64 (n)))]
theorem int_lo (n : Nat) (x : Int) : los n (intC x) = true := rfl
theorem int_pl (x : Int) : (intC x).length = 1 ∧ plains (intC x) = true := ⟨rfl, rfl⟩
theorem ints_lo (n : Nat) (l : List Int) : loss n (l.map intC) = true := loss_map (int_lo n) l
theorem ints_ok (l : List Int) : okRows 1 (l.map intC) = true := okRows_map int_pl l
def keyC (l : List Int) : List AV := [(.fsl ((l).map intC) false)]
theorem key_lo (n : Nat) (l : List Int) : los n (keyC l) = true := by simp only [keyC, los, AV.lo, ints_lo, Bool.and_self]
theorem keys_lo (n : Nat) (l : List (List Int)) : loss n (l.map keyC) = true := loss_map (key_lo n) l
structure OpI where
  code : Int
  a : Int
  b : Int
  c : Int
  deriving DecidableEq
def OpI.r (x : OpI) : List AV := [(.v (.int .i64 (x.code))), (.v (.int .i64 (x.a))), (.v (.int .i64 (x.b))), (.v (.int .i64 (x.c)))]
theorem op_lo (n : Nat) (x : OpI) : los n x.r = true := rfl
theorem prog_lo (n : Nat) (l : List OpI) : loss n (l.map OpI.r) = true := loss_map (op_lo n) l
def progC (p : List OpI) : List AV := [(.fsl ((p).map OpI.r) false)]
theorem progC_lo (n : Nat) (l : List OpI) : los n (progC l) = true := by simp only [progC, los, AV.lo, prog_lo, Bool.and_self]
theorem progs_lo (n : Nat) (l : List (List OpI)) : loss n (l.map progC) = true := loss_map (progC_lo n) l
structure Start where
  prog : Int
  time : Int
  deriving DecidableEq
def Start.r (x : Start) : List AV := [(.v (.int .i64 (x.prog))), (.v (.int .i64 (x.time)))]
theorem start_lo (n : Nat) (x : Start) : los n x.r = true := rfl
theorem starts_lo (n : Nat) (l : List Start) : loss n (l.map Start.r) = true := loss_map (start_lo n) l
def lpC (p : List Start) : List AV := [(.fsl ((p).map Start.r) false)]
theorem lpC_lo (n : Nat) (l : List Start) : los n (lpC l) = true := by simp only [lpC, los, AV.lo, starts_lo, Bool.and_self]
theorem lps_lo (n : Nat) (l : List (List Start)) : loss n (l.map lpC) = true := loss_map (lpC_lo n) l
structure Cfg where
  lps : List (List Start)
  progs : List (List OpI)
  look : Int
  fin : Int
  cap : Int
end Go.Proofs.Ythkjkdbjgpeigaa.K
namespace Go.Proofs.Ythkjkdbjgpeigaa.K
open Go.Ev
set_option linter.unusedSimpArgs false
set_option linter.unusedVariables false
def delayB (n : Int) : Bool := decide (n ≥ 1) && decide (n ≤ 1099511627776)
def valueB (n : Int) : Bool := decide (n ≥ -1073741824) && decide (n ≤ 1073741824)
theorem ref18_delay_ev (n : Int) : callZ (evL T) n_ref18_delay [(.v (.int .i64 (n)))] = some (.v (.bool (delayB n))) := by
  rw [callZ, evL_code ext_ref18_delay code_ref18_delay]
  by_cases h1 : n ≥ 1 <;> simp only [delayB, c_ref18_delay, h1, Ev.runFunc, Ev.exec, Ev.evOpers, Ev.evOper, Ev.item_op, Ev.evOp, Ev.Opnd.ev, Ev.Env.get, Ev.Env.set, Ev.Env.unset, Ev.look, Ev.argVars, Ev.bin_leq, Ev.bin_geq, Ev.resVals, Ev.resVal, Ev.resOf, Ev.kill, Ev.leave, Ev.storeLo, Ev.lo_v, Ev.frz_lo, ↓Ev.obind, ↓reduceIte, List.length_cons, List.length_nil, List.take_nil, Nat.reduceEqDiff, reduceCtorEq, decide_true, decide_false, Bool.true_and, Bool.false_eq_true, and_self, Nat.zero_add, eq_self, Bool.false_and]
theorem ref18_value_ev (n : Int) : callZ (evL T) n_ref18_value [(.v (.int .i64 (n)))] = some (.v (.bool (valueB n))) := by
  rw [callZ, evL_code ext_ref18_value code_ref18_value]
  by_cases h1 : n ≥ -1073741824 <;> simp only [valueB, c_ref18_value, h1, Ev.runFunc, Ev.exec, Ev.evOpers, Ev.evOper, Ev.item_op, Ev.evOp, Ev.Opnd.ev, Ev.Env.get, Ev.Env.set, Ev.Env.unset, Ev.look, Ev.argVars, Ev.bin_leq, Ev.bin_geq, Ev.resVals, Ev.resVal, Ev.resOf, Ev.kill, Ev.leave, Ev.storeLo, Ev.lo_v, Ev.frz_lo, ↓Ev.obind, ↓reduceIte, List.length_cons, List.length_nil, List.take_nil, Nat.reduceEqDiff, Int.reduceNeg, reduceCtorEq, decide_true, decide_false, Bool.true_and, Bool.false_eq_true, and_self, Nat.zero_add, eq_self, Bool.false_and]
def operB (x : OpI) (n ps : Int) : Bool :=
  if x.code = 1 then delayB x.a && (decide (x.b = 0) && decide (x.c = 0))
  else if x.code = 2 then decide (x.a ≥ 0) && (valueB x.b && delayB x.c)
  else if x.code = 3 then delayB x.a && (decide (x.b ≥ 0) && (decide (x.b < n) && decide (x.c = 0)))
  else if x.code = 5 then decide (x.a ≥ 0) && (decide (x.a < ps) && (delayB x.b && decide (x.c = 0)))
  else if x.code = 6 then decide (x.a ≥ 0) && (decide (x.a < 2) && (valueB x.b && decide (x.c = 0)))
  else if x.code = 7 then decide (x.a ≥ 0) && (decide (x.a < 2) && (valueB x.b && (decide (x.c ≥ 0) && decide (x.c < n))))
  else decide (x.a = 0) && (decide (x.b = 0) && decide (x.c = 0))
theorem ref18_operands_ev (x : OpI) (n ps : Int) : callZ (evL T) n_ref18_operands [(.agg [(.v (.int .i64 (x.code))), (.v (.int .i64 (x.a))), (.v (.int .i64 (x.b))), (.v (.int .i64 (x.c)))]), (.v (.int .i64 (n))), (.v (.int .i64 (ps)))] = some (.v (.bool (operB x n ps))) := by
  obtain ⟨k, a, b, c⟩ := x
  rw [callZ, evL_code ext_ref18_operands code_ref18_operands]
  simp only [operB]
  by_cases k1 : k = 1
  · subst k1
    cases h1 : delayB a <;> by_cases h2 : b = 0 <;> simp only [c_ref18_operands, ref18_delay_ev, h1, h2, Ev.runFunc, Ev.exec, Ev.evOpers, Ev.evOper, Ev.item_op, Ev.item_P, Ev.evOp, Ev.evs, Ev.Opnd.ev, Ev.Env.get, Ev.Env.set, Ev.Env.unset, Ev.look, Ev.argVars, Ev.cellsAt, Ev.loadC, Ev.AV.cells, Ev.plains, Ev.AV.plain, Ev.bin_eql, Ev.resVals, Ev.resVal, Ev.resOf, Ev.kill, Ev.leave, Ev.storeLo, Ev.lo_v, Ev.los_nil, Ev.los_cons, Ev.frz_lo, ↓Ev.obind, ↓reduceIte, List.length_cons, List.length_nil, List.take_nil, List.drop_succ_cons, List.drop_zero, List.head?_cons, Nat.reduceAdd, Nat.reduceEqDiff, decide_true, decide_false, Bool.and_self, Bool.true_and, Bool.false_eq_true, and_self, ne_eq, not_false_eq_true, List.cons_ne_nil, Nat.zero_add, eq_self, Bool.false_and, Bool.and_false]
  by_cases k2 : k = 2
  · subst k2
    by_cases h1 : a ≥ 0 <;> cases h2 : valueB b <;> simp only [c_ref18_operands, ref18_delay_ev, ref18_value_ev, h1, h2, Ev.runFunc, Ev.exec, Ev.evOpers, Ev.evOper, Ev.item_op, Ev.item_P, Ev.evOp, Ev.evs, Ev.Opnd.ev, Ev.Env.get, Ev.Env.set, Ev.Env.unset, Ev.look, Ev.argVars, Ev.cellsAt, Ev.loadC, Ev.AV.cells, Ev.plains, Ev.AV.plain, Ev.bin_eql, Ev.bin_geq, Ev.resVals, Ev.resVal, Ev.resOf, Ev.kill, Ev.leave, Ev.storeLo, Ev.lo_v, Ev.los_nil, Ev.los_cons, Ev.frz_lo, ↓Ev.obind, ↓reduceIte, List.length_cons, List.length_nil, List.take_nil, List.drop_succ_cons, List.drop_zero, List.head?_cons, Nat.reduceAdd, Nat.reduceEqDiff, Int.reduceEq, decide_true, decide_false, Bool.and_self, Bool.true_and, Bool.false_eq_true, and_self, ne_eq, not_false_eq_true, List.cons_ne_nil, Nat.zero_add, eq_self, Bool.false_and, Bool.and_false]
  by_cases k3 : k = 3
  · subst k3
    cases h1 : delayB a <;> by_cases h2 : b ≥ 0 <;> by_cases h3 : b < n <;> simp only [c_ref18_operands, ref18_delay_ev, h1, h2, h3, Ev.runFunc, Ev.exec, Ev.evOpers, Ev.evOper, Ev.item_op, Ev.item_P, Ev.evOp, Ev.evs, Ev.Opnd.ev, Ev.Env.get, Ev.Env.set, Ev.Env.unset, Ev.look, Ev.argVars, Ev.cellsAt, Ev.loadC, Ev.AV.cells, Ev.plains, Ev.AV.plain, Ev.bin_eql, Ev.bin_lss, Ev.bin_geq, Ev.resVals, Ev.resVal, Ev.resOf, Ev.kill, Ev.leave, Ev.storeLo, Ev.lo_v, Ev.los_nil, Ev.los_cons, Ev.frz_lo, ↓Ev.obind, ↓reduceIte, List.length_cons, List.length_nil, List.take_nil, List.drop_succ_cons, List.drop_zero, List.head?_cons, Nat.reduceAdd, Nat.reduceEqDiff, Int.reduceEq, reduceCtorEq, decide_true, decide_false, Bool.and_self, Bool.true_and, Bool.false_eq_true, and_self, ne_eq, not_false_eq_true, List.cons_ne_nil, Nat.zero_add, eq_self, Bool.false_and, Bool.and_false]
  by_cases k5 : k = 5
  · subst k5
    by_cases h1 : a ≥ 0 <;> by_cases h2 : a < ps <;> cases h3 : delayB b <;> simp only [c_ref18_operands, ref18_delay_ev, h1, h2, h3, Ev.runFunc, Ev.exec, Ev.evOpers, Ev.evOper, Ev.item_op, Ev.item_P, Ev.evOp, Ev.evs, Ev.Opnd.ev, Ev.Env.get, Ev.Env.set, Ev.Env.unset, Ev.look, Ev.argVars, Ev.cellsAt, Ev.loadC, Ev.AV.cells, Ev.plains, Ev.AV.plain, Ev.bin_eql, Ev.bin_lss, Ev.bin_geq, Ev.resVals, Ev.resVal, Ev.resOf, Ev.kill, Ev.leave, Ev.storeLo, Ev.lo_v, Ev.los_nil, Ev.los_cons, Ev.frz_lo, ↓Ev.obind, ↓reduceIte, List.length_cons, List.length_nil, List.take_nil, List.drop_succ_cons, List.drop_zero, List.head?_cons, Nat.reduceAdd, Nat.reduceEqDiff, Int.reduceEq, reduceCtorEq, decide_true, decide_false, Bool.and_self, Bool.true_and, Bool.false_eq_true, and_self, ne_eq, not_false_eq_true, List.cons_ne_nil, Nat.zero_add, eq_self, Bool.false_and, Bool.and_false]
  by_cases k6 : k = 6
  · subst k6
    by_cases h1 : a ≥ 0 <;> by_cases h2 : a < 2 <;> cases h3 : valueB b <;> simp only [c_ref18_operands, ref18_value_ev, h1, h2, h3, Ev.runFunc, Ev.exec, Ev.evOpers, Ev.evOper, Ev.item_op, Ev.item_P, Ev.evOp, Ev.evs, Ev.Opnd.ev, Ev.Env.get, Ev.Env.set, Ev.Env.unset, Ev.look, Ev.argVars, Ev.cellsAt, Ev.loadC, Ev.AV.cells, Ev.plains, Ev.AV.plain, Ev.bin_eql, Ev.bin_lss, Ev.bin_geq, Ev.resVals, Ev.resVal, Ev.resOf, Ev.kill, Ev.leave, Ev.storeLo, Ev.lo_v, Ev.los_nil, Ev.los_cons, Ev.frz_lo, ↓Ev.obind, ↓reduceIte, List.length_cons, List.length_nil, List.take_nil, List.drop_succ_cons, List.drop_zero, List.head?_cons, Nat.reduceAdd, Nat.reduceEqDiff, Int.reduceEq, decide_true, decide_false, Bool.and_self, Bool.true_and, Bool.false_eq_true, and_self, ne_eq, not_false_eq_true, List.cons_ne_nil, Nat.zero_add, eq_self, Bool.false_and, Bool.and_false]
  by_cases k7 : k = 7
  · subst k7
    by_cases h1 : a ≥ 0 <;> by_cases h2 : a < 2 <;> cases h3 : valueB b <;> by_cases h4 : c ≥ 0 <;> simp only [c_ref18_operands, ref18_value_ev, h1, h2, h3, h4, Ev.runFunc, Ev.exec, Ev.evOpers, Ev.evOper, Ev.item_op, Ev.item_P, Ev.evOp, Ev.evs, Ev.Opnd.ev, Ev.Env.get, Ev.Env.set, Ev.Env.unset, Ev.look, Ev.argVars, Ev.cellsAt, Ev.loadC, Ev.AV.cells, Ev.plains, Ev.AV.plain, Ev.bin_eql, Ev.bin_lss, Ev.bin_geq, Ev.resVals, Ev.resVal, Ev.resOf, Ev.kill, Ev.leave, Ev.storeLo, Ev.lo_v, Ev.los_nil, Ev.los_cons, Ev.frz_lo, ↓Ev.obind, ↓reduceIte, List.length_cons, List.length_nil, List.take_nil, List.drop_succ_cons, List.drop_zero, List.head?_cons, Nat.reduceAdd, Nat.reduceEqDiff, Int.reduceEq, reduceCtorEq, decide_true, decide_false, Bool.and_self, Bool.true_and, Bool.false_eq_true, and_self, ne_eq, not_false_eq_true, List.cons_ne_nil, Nat.zero_add, eq_self, Bool.false_and, Bool.and_false]
  by_cases h1 : a = 0 <;> by_cases h2 : b = 0 <;> simp only [c_ref18_operands, k1, k2, k3, k5, k6, k7, h1, h2, Ev.runFunc, Ev.exec, Ev.evOpers, Ev.evOper, Ev.item_op, Ev.evOp, Ev.Opnd.ev, Ev.Env.get, Ev.Env.set, Ev.Env.unset, Ev.look, Ev.argVars, Ev.cellsAt, Ev.loadC, Ev.AV.cells, Ev.plains, Ev.AV.plain, Ev.bin_eql, Ev.resVals, Ev.resVal, Ev.resOf, Ev.kill, Ev.leave, Ev.storeLo, Ev.lo_v, Ev.frz_lo, ↓Ev.obind, ↓reduceIte, List.length_cons, List.length_nil, List.take_nil, List.drop_succ_cons, List.drop_zero, List.head?_cons, Nat.reduceAdd, Nat.reduceEqDiff, decide_true, decide_false, Bool.and_self, Bool.true_and, Bool.false_eq_true, and_self, ne_eq, not_false_eq_true, List.cons_ne_nil, Nat.zero_add, eq_self, Bool.false_and, Bool.and_false]
end Go.Proofs.Ythkjkdbjgpeigaa.K
namespace Go.Proofs.Ythkjkdbjgpeigaa.K
open Go.Ev
set_option linter.unusedSimpArgs false
set_option linter.unusedVariables false
def codeB (x : OpI) : Bool := decide (x.code ≥ 1) && decide (x.code ≤ 8)
def shapeB (p : List OpI) : Bool := decide (1 ≤ p.length ∧ p.length ≤ 16) && p.all codeB
def tgtB (lps : Int) (x : OpI) : Bool := !(decide (x.code = 2) && decide (x.a ≥ lps))
def earlyB (look : Int) (x : OpI) : Bool := !(decide (x.code = 2) && decide (x.c < look))
def checkZ (p : List OpI) (ps lps look : Int) : Int :=
  if shapeB p = false then 22 else if p.all (fun x => operB x p.length ps) = false then 22 else if p.all (tgtB lps) = false then 23 else if p.all (earlyB look) = false then 21 else 0
section
variable (p : List OpI) (c : Bool) (ps lps look : Int)
theorem ref18_shape_L (hl : p.length ≤ 16) :
    ∃ y, itB (exec (evL T) itL none c_ref18_shape_L1) (Ev.settle [0, 3] true 0) ⟨[(0, (.fsl ((p).map OpI.r) c)), (3, (.v (.int .i64 (0))))], []⟩ [] = some y ∧ (p.all codeB = true ∧ (y.1 = .exit 0 ∧ y.2.1.marks = [] ∧ y.2.2 = []) ∨
      p.all codeB = false ∧ ∃ x, p.find? (fun x => !codeB x) = some x ∧ (y.1 = .ret ∧ y.2.1.marks = [] ∧ y.2.2 = [] ∧ Ev.look y.2.1.vars 2 = some (.v (.bool (false))))) := by
  refine itB_find p (fun i => ⟨[(0, (.fsl ((p).map OpI.r) c)), (3, (.v (.int .i64 (i))))], []⟩) [] codeB _ (fun _ y => _) ?_ ?_ ?_
  · intro i x hi hx hp
    have hi' : (i : Int) < (p.length : Int) := by omega
    have hw : IntKind.i64.wrap ((i : Int) + 1) = ((i + 1 : Nat) : Int) := by rw [w64_small (by omega) (by omega)]; simp
    simp only [codeB, Bool.and_eq_true, decide_eq_true_eq] at hp
    have h1 : ¬ x.code < 1 := by omega
    have h2 : ¬ x.code > 8 := by omega
    simp only [c_ref18_shape_L1, Int.natCast_nonneg, Int.toNat_natCast, List.getElem?_map, Option.map_some, OpI.r, hx, hi', hw, h1, h2, prog_lo, Ev.exec, Ev.evOpers, Ev.evOper, Ev.item_op, Ev.evOp, Ev.Opnd.ev, Ev.Env.get, Ev.Env.set, Ev.look, Ev.cellsAt, Ev.loadC, Ev.bin_add, Ev.bin_lss, Ev.bin_gtr, Ev.settle, Ev.keep, Ev.varsLo, Ev.marksLo, Ev.storeLo, Ev.lo_v, Ev.lo_fsl, List.length_map, ↓Ev.obind, Ev.it1, ↓reduceIte, List.length_cons, List.length_nil, List.take_nil, List.drop_zero, List.head?_cons, Nat.reduceAdd, Nat.reduceEqDiff, reduceCtorEq, decide_true, decide_false, Bool.and_self, Bool.false_eq_true, and_self, Nat.zero_add, eq_self]
  · intro i x hi hx hp
    have hi' : (i : Int) < (p.length : Int) := by omega
    simp only [codeB, Bool.and_eq_false_iff, decide_eq_false_iff_not] at hp
    by_cases h1 : x.code < 1
    · simp only [c_ref18_shape_L1, Int.natCast_nonneg, Int.toNat_natCast, List.getElem?_map, Option.map_some, OpI.r, hx, hi', h1, Ev.exec, Ev.evOpers, Ev.evOper, Ev.item_op, Ev.evOp, Ev.Opnd.ev, Ev.Env.get, Ev.Env.set, Ev.Env.unset, Ev.look, Ev.cellsAt, Ev.loadC, Ev.bin_lss, List.length_map, ↓Ev.obind, Ev.it1, ↓reduceIte, List.length_cons, List.length_nil, List.drop_zero, List.head?_cons, Nat.reduceAdd, Nat.reduceEqDiff, reduceCtorEq, decide_true, Bool.false_eq_true, Bool.true_eq_false, Nat.zero_add, eq_self]
      exact ⟨_, rfl, rfl, rfl, rfl, rfl⟩
    · have h2 : x.code > 8 := by omega
      simp only [c_ref18_shape_L1, Int.natCast_nonneg, Int.toNat_natCast, List.getElem?_map, Option.map_some, OpI.r, hx, hi', h1, h2, Ev.exec, Ev.evOpers, Ev.evOper, Ev.item_op, Ev.evOp, Ev.Opnd.ev, Ev.Env.get, Ev.Env.set, Ev.look, Ev.cellsAt, Ev.loadC, Ev.bin_lss, Ev.bin_gtr, List.length_map, ↓Ev.obind, Ev.it1, ↓reduceIte, List.length_cons, List.length_nil, List.drop_zero, List.head?_cons, Nat.reduceAdd, Nat.reduceEqDiff, reduceCtorEq, decide_true, decide_false, Bool.false_eq_true, Nat.zero_add, eq_self]
      exact ⟨_, rfl, rfl, rfl, rfl, rfl⟩
  · simp only [c_ref18_shape_L1, Int.lt_irrefl, Ev.exec, Ev.evOpers, Ev.evOper, Ev.item_op, Ev.evOp, Ev.Opnd.ev, Ev.Env.get, Ev.Env.set, Ev.look, Ev.bin_lss, List.length_map, ↓Ev.obind, Ev.it1, ↓reduceIte, Nat.reduceEqDiff, reduceCtorEq, decide_false, Bool.false_eq_true, eq_self]
    exact ⟨_, rfl, rfl, rfl, rfl⟩
theorem ref18_shape_ev : callZ (evL T) n_ref18_shape [(.fsl ((p).map OpI.r) c)] = some (.v (.bool (shapeB p))) := by
  rw [callZ, evL_code ext_ref18_shape code_ref18_shape]
  by_cases h1 : (p.length : Int) < 1
  · have : ¬ (1 ≤ p.length ∧ p.length ≤ 16) := by omega
    simp only [c_ref18_shape, shapeB, this, h1, Ev.runFunc, Ev.exec, Ev.evOpers, Ev.evOper, Ev.item_op, Ev.evOp, Ev.Opnd.ev, Ev.Env.get, Ev.Env.set, Ev.Env.unset, Ev.look, Ev.argVars, Ev.bin_lss, Ev.resVals, Ev.resVal, Ev.resOf, Ev.kill, Ev.leave, Ev.storeLo, Ev.lo_v, Ev.frz_lo, List.length_map, ↓Ev.obind, ↓reduceIte, List.length_cons, List.length_nil, List.take_nil, Nat.reduceEqDiff, reduceCtorEq, decide_true, decide_false, Bool.true_eq_false, and_self, Nat.zero_add, eq_self, Bool.false_and]
  by_cases h2 : (p.length : Int) > 16
  · have : ¬ (1 ≤ p.length ∧ p.length ≤ 16) := by omega
    simp only [c_ref18_shape, shapeB, this, h1, h2, Ev.runFunc, Ev.exec, Ev.evOpers, Ev.evOper, Ev.item_op, Ev.evOp, Ev.Opnd.ev, Ev.Env.get, Ev.Env.set, Ev.look, Ev.argVars, Ev.bin_lss, Ev.bin_gtr, Ev.resVals, Ev.resVal, Ev.resOf, Ev.kill, Ev.leave, Ev.storeLo, Ev.lo_v, Ev.frz_lo, List.length_map, ↓Ev.obind, ↓reduceIte, List.length_cons, List.length_nil, List.take_nil, Nat.reduceEqDiff, reduceCtorEq, decide_true, decide_false, Bool.false_eq_true, and_self, Nat.zero_add, eq_self, Bool.false_and]
  have h3 : 1 ≤ p.length ∧ p.length ≤ 16 := by omega
  obtain ⟨⟨y, e, σ⟩, k1, k2⟩ := ref18_shape_L p c h3.2
  simp only at k2
  rcases k2 with ⟨k3, rfl, k4, rfl⟩ | ⟨k3, x, _, rfl, k4, rfl, k5⟩
  · simp only [c_ref18_shape, shapeB, h3, h1, h2, k1, k3, k4, prog_lo, Ev.runFunc, Ev.exec, Ev.evOpers, Ev.evOper, Ev.item_op, Ev.evOp, Ev.Opnd.ev, Ev.Env.get, Ev.Env.set, Ev.look, Ev.argVars, Ev.bin_lss, Ev.bin_gtr, Ev.resVals, Ev.resVal, Ev.resOf, Ev.kill, Ev.leave, Ev.settle, Ev.keep, Ev.varsLo, Ev.marksLo, Ev.storeLo, Ev.lo_v, Ev.lo_fsl, Ev.frz_lo, List.length_map, ↓Ev.obind, ↓Ev.itL_itB, ↓reduceIte, List.length_cons, List.length_nil, List.take_nil, Nat.reduceEqDiff, reduceCtorEq, decide_true, decide_false, Bool.and_self, Bool.false_eq_true, and_self, Nat.zero_add, eq_self]
  · simp only [c_ref18_shape, shapeB, h3, h1, h2, k1, k3, k4, k5, prog_lo, Ev.runFunc, Ev.exec, Ev.evOpers, Ev.evOper, Ev.item_op, Ev.evOp, Ev.Opnd.ev, Ev.Env.get, Ev.Env.set, Ev.look, Ev.argVars, Ev.bin_lss, Ev.bin_gtr, Ev.resVals, Ev.resVal, Ev.resOf, Ev.kill, Ev.leave, Ev.settle, Ev.keep, Ev.varsLo, Ev.marksLo, Ev.storeLo, Ev.lo_v, Ev.lo_fsl, Ev.frz_lo, List.length_map, ↓Ev.obind, ↓Ev.itL_itB, ↓reduceIte, List.length_cons, List.length_nil, List.take_nil, Nat.reduceEqDiff, reduceCtorEq, decide_true, decide_false, Bool.and_self, Bool.false_eq_true, and_self, Nat.zero_add, eq_self, Bool.and_false]
theorem ref18_Check_l1 (hl : p.length ≤ 16) :
    ∃ y, itB (exec (evL T) itL none c_ref18_Check_L1) (Ev.settle [0, 1, 2, 3, 9] true 0) ⟨[(0, (.fsl ((p).map OpI.r) c)), (1, (.v (.int .i64 (ps)))), (2, (.v (.int .i64 (lps)))), (3, (.v (.int .i64 (look)))), (9, (.v (.int .i64 (0))))], []⟩ [] = some y ∧
      (p.all (fun x => operB x p.length ps) = true ∧ (y.1 = .exit 0 ∧ y.2.1.marks = [] ∧ y.2.2 = [] ∧ Ev.look y.2.1.vars 0 = some (.fsl ((p).map OpI.r) c) ∧ Ev.look y.2.1.vars 2 = some (.v (.int .i64 (lps))) ∧ Ev.look y.2.1.vars 3 = some (.v (.int .i64 (look)))) ∨
      p.all (fun x => operB x p.length ps) = false ∧ ∃ x, p.find? (fun x => !operB x p.length ps) = some x ∧ (y.1 = .ret ∧ y.2.1.marks = [] ∧ y.2.2 = [] ∧ Ev.look y.2.1.vars 8 = some (.v (.int .i64 (22))))) := by
  refine itB_find p (fun i => ⟨[(0, (.fsl ((p).map OpI.r) c)), (1, (.v (.int .i64 (ps)))), (2, (.v (.int .i64 (lps)))), (3, (.v (.int .i64 (look)))), (9, (.v (.int .i64 (i))))], []⟩) [] (fun x => operB x p.length ps) _ (fun _ y => _) ?_ ?_ ?_
  · intro i x hi hx hp
    have hi' : (i : Int) < (p.length : Int) := by omega
    have hw : IntKind.i64.wrap ((i : Int) + 1) = ((i + 1 : Nat) : Int) := by rw [w64_small (by omega) (by omega)]; simp
    simp only [c_ref18_Check_L1, Int.natCast_nonneg, Int.toNat_natCast, List.getElem?_map, Option.map_some, OpI.r, hx, hi', hw, ref18_operands_ev, hp, prog_lo, Ev.exec, Ev.evOpers, Ev.evOper, Ev.item_op, Ev.item_P, Ev.evOp, Ev.evs, Ev.Opnd.ev, Ev.Env.get, Ev.Env.set, Ev.look, Ev.cellsAt, Ev.loadC, Ev.bin_add, Ev.bin_lss, Ev.settle, Ev.keep, Ev.varsLo, Ev.marksLo, Ev.storeLo, Ev.lo_v, Ev.lo_agg, Ev.lo_fsl, Ev.los_nil, Ev.los_cons, List.length_map, ↓Ev.obind, Ev.it1, ↓reduceIte, List.length_cons, List.length_nil, List.take_succ_cons, List.take_nil, Nat.reduceAdd, Nat.reduceEqDiff, reduceCtorEq, decide_true, Bool.and_self, Bool.not_true, Bool.false_eq_true, and_self, Nat.zero_add, Nat.le_refl, eq_self]
  · intro i x hi hx hp
    have hi' : (i : Int) < (p.length : Int) := by omega
    simp only [c_ref18_Check_L1, Int.natCast_nonneg, Int.toNat_natCast, List.getElem?_map, Option.map_some, OpI.r, hx, hi', ref18_operands_ev, hp, Ev.exec, Ev.evOpers, Ev.evOper, Ev.item_op, Ev.item_P, Ev.evOp, Ev.evs, Ev.Opnd.ev, Ev.Env.get, Ev.Env.set, Ev.look, Ev.cellsAt, Ev.loadC, Ev.bin_lss, Ev.lo_v, Ev.lo_agg, Ev.los_nil, Ev.los_cons, List.length_map, ↓Ev.obind, Ev.it1, ↓reduceIte, List.length_cons, List.length_nil, List.take_succ_cons, List.take_nil, Nat.reduceAdd, Nat.reduceEqDiff, reduceCtorEq, decide_true, Bool.and_self, Bool.not_false, Nat.zero_add, Nat.le_refl, eq_self]
    exact ⟨_, rfl, rfl, rfl, rfl, rfl⟩
  · simp only [c_ref18_Check_L1, Int.lt_irrefl, Ev.exec, Ev.evOpers, Ev.evOper, Ev.item_op, Ev.evOp, Ev.Opnd.ev, Ev.Env.get, Ev.Env.set, Ev.look, Ev.bin_lss, List.length_map, ↓Ev.obind, Ev.it1, ↓reduceIte, Nat.reduceEqDiff, reduceCtorEq, decide_false, Bool.false_eq_true, eq_self]
    exact ⟨_, rfl, rfl, rfl, rfl, rfl, rfl, rfl⟩
theorem ref18_Check_l2 (hl : p.length ≤ 16) :
    ∃ y, itB (exec (evL T) itL none c_ref18_Check_L2) (Ev.settle [0, 2, 3, 10] true 0) ⟨[(0, (.fsl ((p).map OpI.r) c)), (2, (.v (.int .i64 (lps)))), (3, (.v (.int .i64 (look)))), (10, (.v (.int .i64 (0))))], []⟩ [] = some y ∧
      (p.all (tgtB lps) = true ∧ (y.1 = .exit 2 ∧ y.2.1.marks = [] ∧ y.2.2 = [] ∧ Ev.look y.2.1.vars 0 = some (.fsl ((p).map OpI.r) c) ∧ Ev.look y.2.1.vars 3 = some (.v (.int .i64 (look)))) ∨
      p.all (tgtB lps) = false ∧ ∃ x, p.find? (fun x => !tgtB lps x) = some x ∧ (y.1 = .ret ∧ y.2.1.marks = [] ∧ y.2.2 = [] ∧ Ev.look y.2.1.vars 8 = some (.v (.int .i64 (23))))) := by
  refine itB_find p (fun i => ⟨[(0, (.fsl ((p).map OpI.r) c)), (2, (.v (.int .i64 (lps)))), (3, (.v (.int .i64 (look)))), (10, (.v (.int .i64 (i))))], []⟩) [] (tgtB lps) _ (fun _ y => _) ?_ ?_ ?_
  · intro i x hi hx hp
    have hi' : (i : Int) < (p.length : Int) := by omega
    have hw : IntKind.i64.wrap ((i : Int) + 1) = ((i + 1 : Nat) : Int) := by rw [w64_small (by omega) (by omega)]; simp
    by_cases h1 : x.code = 2
    · have h2 : ¬ x.a ≥ lps := by simpa [tgtB, h1] using hp
      simp only [c_ref18_Check_L2, Int.natCast_nonneg, Int.toNat_natCast, List.getElem?_map, Option.map_some, OpI.r, hx, hi', hw, h1, h2, prog_lo, Ev.exec, Ev.evOpers, Ev.evOper, Ev.item_op, Ev.evOp, Ev.Opnd.ev, Ev.Env.get, Ev.Env.set, Ev.look, Ev.cellsAt, Ev.loadC, Ev.bin_add, Ev.bin_eql, Ev.bin_lss, Ev.bin_geq, Ev.settle, Ev.keep, Ev.varsLo, Ev.marksLo, Ev.storeLo, Ev.lo_v, Ev.lo_fsl, List.length_map, ↓Ev.obind, Ev.it1, ↓reduceIte, List.length_cons, List.length_nil, List.take_nil, List.drop_succ_cons, List.drop_zero, List.head?_cons, Nat.reduceAdd, Nat.reduceEqDiff, reduceCtorEq, decide_true, decide_false, Bool.and_self, Bool.false_eq_true, and_self, Nat.zero_add, eq_self]
    · simp only [c_ref18_Check_L2, Int.natCast_nonneg, Int.toNat_natCast, List.getElem?_map, Option.map_some, OpI.r, hx, hi', hw, h1, prog_lo, Ev.exec, Ev.evOpers, Ev.evOper, Ev.item_op, Ev.evOp, Ev.Opnd.ev, Ev.Env.get, Ev.Env.set, Ev.Env.unset, Ev.look, Ev.cellsAt, Ev.loadC, Ev.bin_add, Ev.bin_eql, Ev.bin_lss, Ev.settle, Ev.keep, Ev.varsLo, Ev.marksLo, Ev.storeLo, Ev.lo_v, Ev.lo_fsl, List.length_map, ↓Ev.obind, Ev.it1, ↓reduceIte, List.length_cons, List.length_nil, List.take_nil, List.drop_zero, List.head?_cons, Nat.reduceAdd, Nat.reduceEqDiff, reduceCtorEq, decide_true, decide_false, Bool.and_self, Bool.false_eq_true, and_self, Nat.zero_add, eq_self]
  · intro i x hi hx hp
    have hi' : (i : Int) < (p.length : Int) := by omega
    have h1 : x.code = 2 := by
      by_cases h1 : x.code = 2
      · exact h1
      · simp [tgtB, h1] at hp
    have h2 : x.a ≥ lps := by simpa [tgtB, h1] using hp
    simp only [c_ref18_Check_L2, Int.natCast_nonneg, Int.toNat_natCast, List.getElem?_map, Option.map_some, OpI.r, hx, hi', h1, h2, Ev.exec, Ev.evOpers, Ev.evOper, Ev.item_op, Ev.evOp, Ev.Opnd.ev, Ev.Env.get, Ev.Env.set, Ev.look, Ev.cellsAt, Ev.loadC, Ev.bin_eql, Ev.bin_lss, Ev.bin_geq, List.length_map, ↓Ev.obind, Ev.it1, ↓reduceIte, List.length_cons, List.length_nil, List.drop_succ_cons, List.drop_zero, List.head?_cons, Nat.reduceAdd, Nat.reduceEqDiff, reduceCtorEq, decide_true, Bool.false_eq_true, Nat.zero_add, eq_self]
    exact ⟨_, rfl, rfl, rfl, rfl, rfl⟩
  · simp only [c_ref18_Check_L2, Int.lt_irrefl, Ev.exec, Ev.evOpers, Ev.evOper, Ev.item_op, Ev.evOp, Ev.Opnd.ev, Ev.Env.get, Ev.Env.set, Ev.look, Ev.bin_lss, List.length_map, ↓Ev.obind, Ev.it1, ↓reduceIte, Nat.reduceEqDiff, reduceCtorEq, decide_false, Bool.false_eq_true, eq_self]
    exact ⟨_, rfl, rfl, rfl, rfl, rfl, rfl⟩
theorem ref18_Check_l3 (hl : p.length ≤ 16) :
    ∃ y, itB (exec (evL T) itL none c_ref18_Check_L3) (Ev.settle [0, 3, 11] true 0) ⟨[(0, (.fsl ((p).map OpI.r) c)), (3, (.v (.int .i64 (look)))), (11, (.v (.int .i64 (0))))], []⟩ [] = some y ∧
      (p.all (earlyB look) = true ∧ (y.1 = .exit 4 ∧ y.2.1.marks = [] ∧ y.2.2 = []) ∨
      p.all (earlyB look) = false ∧ ∃ x, p.find? (fun x => !earlyB look x) = some x ∧ (y.1 = .ret ∧ y.2.1.marks = [] ∧ y.2.2 = [] ∧ Ev.look y.2.1.vars 8 = some (.v (.int .i64 (21))))) := by
  refine itB_find p (fun i => ⟨[(0, (.fsl ((p).map OpI.r) c)), (3, (.v (.int .i64 (look)))), (11, (.v (.int .i64 (i))))], []⟩) [] (earlyB look) _ (fun _ y => _) ?_ ?_ ?_
  · intro i x hi hx hp
    have hi' : (i : Int) < (p.length : Int) := by omega
    have hw : IntKind.i64.wrap ((i : Int) + 1) = ((i + 1 : Nat) : Int) := by rw [w64_small (by omega) (by omega)]; simp
    by_cases h1 : x.code = 2
    · have h2 : ¬ x.c < look := by simpa [earlyB, h1] using hp
      simp only [c_ref18_Check_L3, Int.natCast_nonneg, Int.toNat_natCast, List.getElem?_map, Option.map_some, OpI.r, hx, hi', hw, h1, h2, prog_lo, Ev.exec, Ev.evOpers, Ev.evOper, Ev.item_op, Ev.evOp, Ev.Opnd.ev, Ev.Env.get, Ev.Env.set, Ev.look, Ev.cellsAt, Ev.loadC, Ev.bin_add, Ev.bin_eql, Ev.bin_lss, Ev.settle, Ev.keep, Ev.varsLo, Ev.marksLo, Ev.storeLo, Ev.lo_v, Ev.lo_fsl, List.length_map, ↓Ev.obind, Ev.it1, ↓reduceIte, List.length_cons, List.length_nil, List.take_nil, List.drop_succ_cons, List.drop_zero, List.head?_cons, Nat.reduceAdd, Nat.reduceEqDiff, reduceCtorEq, decide_true, decide_false, Bool.and_self, Bool.false_eq_true, and_self, Nat.zero_add, eq_self]
    · simp only [c_ref18_Check_L3, Int.natCast_nonneg, Int.toNat_natCast, List.getElem?_map, Option.map_some, OpI.r, hx, hi', hw, h1, prog_lo, Ev.exec, Ev.evOpers, Ev.evOper, Ev.item_op, Ev.evOp, Ev.Opnd.ev, Ev.Env.get, Ev.Env.set, Ev.Env.unset, Ev.look, Ev.cellsAt, Ev.loadC, Ev.bin_add, Ev.bin_eql, Ev.bin_lss, Ev.settle, Ev.keep, Ev.varsLo, Ev.marksLo, Ev.storeLo, Ev.lo_v, Ev.lo_fsl, List.length_map, ↓Ev.obind, Ev.it1, ↓reduceIte, List.length_cons, List.length_nil, List.take_nil, List.drop_zero, List.head?_cons, Nat.reduceAdd, Nat.reduceEqDiff, reduceCtorEq, decide_true, decide_false, Bool.and_self, Bool.false_eq_true, and_self, Nat.zero_add, eq_self]
  · intro i x hi hx hp
    have hi' : (i : Int) < (p.length : Int) := by omega
    have h1 : x.code = 2 := by
      by_cases h1 : x.code = 2
      · exact h1
      · simp [earlyB, h1] at hp
    have h2 : x.c < look := by simpa [earlyB, h1] using hp
    simp only [c_ref18_Check_L3, Int.natCast_nonneg, Int.toNat_natCast, List.getElem?_map, Option.map_some, OpI.r, hx, hi', h1, h2, Ev.exec, Ev.evOpers, Ev.evOper, Ev.item_op, Ev.evOp, Ev.Opnd.ev, Ev.Env.get, Ev.Env.set, Ev.look, Ev.cellsAt, Ev.loadC, Ev.bin_eql, Ev.bin_lss, List.length_map, ↓Ev.obind, Ev.it1, ↓reduceIte, List.length_cons, List.length_nil, List.drop_succ_cons, List.drop_zero, List.head?_cons, Nat.reduceAdd, Nat.reduceEqDiff, reduceCtorEq, decide_true, Bool.false_eq_true, Nat.zero_add, eq_self]
    exact ⟨_, rfl, rfl, rfl, rfl, rfl⟩
  · simp only [c_ref18_Check_L3, Int.lt_irrefl, Ev.exec, Ev.evOpers, Ev.evOper, Ev.item_op, Ev.evOp, Ev.Opnd.ev, Ev.Env.get, Ev.Env.set, Ev.look, Ev.bin_lss, List.length_map, ↓Ev.obind, Ev.it1, ↓reduceIte, Nat.reduceEqDiff, reduceCtorEq, decide_false, Bool.false_eq_true, eq_self]
    exact ⟨_, rfl, rfl, rfl, rfl⟩
theorem ref18_Check_ev : callZ (evL T) n_ref18_Check [(.fsl ((p).map OpI.r) c), (.v (.int .i64 (ps))), (.v (.int .i64 (lps))), (.v (.int .i64 (look)))] = some (.v (.int .i64 (checkZ p ps lps look))) := by
  have h0 := ref18_shape_ev p c
  rw [callZ, evL_code ext_ref18_Check code_ref18_Check]
  cases hs : shapeB p with
  | false =>
    rw [hs] at h0
    simp only [c_ref18_Check, checkZ, h0, hs, prog_lo, Ev.runFunc, Ev.exec, Ev.evOpers, Ev.evOper, Ev.item_op, Ev.item_P, Ev.evOp, Ev.evs, Ev.Opnd.ev, Ev.Env.get, Ev.Env.set, Ev.look, Ev.argVars, Ev.resVals, Ev.resVal, Ev.resOf, Ev.kill, Ev.leave, Ev.storeLo, Ev.lo_v, Ev.lo_fsl, Ev.los_nil, Ev.los_cons, Ev.frz_lo, ↓Ev.obind, ↓reduceIte, List.length_cons, List.length_nil, List.take_nil, Nat.reduceAdd, reduceCtorEq, Bool.and_self, Bool.not_false, and_self, Nat.zero_add, eq_self]
  | true =>
    rw [hs] at h0
    have hl : p.length ≤ 16 := by simp only [shapeB, Bool.and_eq_true, decide_eq_true_eq] at hs; exact hs.1.2
    obtain ⟨⟨y1, e1, σ1⟩, k1, k2⟩ := ref18_Check_l1 p c ps lps look hl
    obtain ⟨⟨y2, e2, σ2⟩, m1, m2⟩ := ref18_Check_l2 p c lps look hl
    obtain ⟨⟨y3, e3, σ3⟩, n1, n2⟩ := ref18_Check_l3 p c look hl
    simp only at k2 m2 n2
    rcases k2 with ⟨q1, rfl, q2, rfl, q3, q4, q5⟩ | ⟨q1, x, _, rfl, q2, rfl, q3⟩
    · rcases m2 with ⟨r1, rfl, r2, rfl, r3, r4⟩ | ⟨r1, x, _, rfl, r2, rfl, r3⟩
      · rcases n2 with ⟨t1, rfl, t2, rfl⟩ | ⟨t1, x, _, rfl, t2, rfl, t3⟩
        · simp only [c_ref18_Check, checkZ, h0, hs, k1, q1, q2, q3, q4, q5, m1, r1, r2, r3, r4, n1, t1, t2, prog_lo, Ev.runFunc, Ev.exec, Ev.evOpers, Ev.evOper, Ev.item_op, Ev.item_P, Ev.evOp, Ev.evs, Ev.Opnd.ev, Ev.Env.get, Ev.Env.set, Ev.look, Ev.argVars, Ev.resVals, Ev.resVal, Ev.resOf, Ev.kill, Ev.leave, Ev.settle, Ev.keep, Ev.varsLo, Ev.marksLo, Ev.storeLo, Ev.lo_v, Ev.lo_fsl, Ev.los_nil, Ev.los_cons, Ev.frz_lo, ↓Ev.obind, ↓Ev.itL_itB, ↓reduceIte, List.length_cons, List.length_nil, List.take_nil, Nat.reduceAdd, Nat.reduceEqDiff, reduceCtorEq, Bool.and_self, Bool.not_true, Bool.false_eq_true, Bool.true_eq_false, and_self, Nat.zero_add, eq_self]
        · simp only [c_ref18_Check, checkZ, h0, hs, k1, q1, q2, q3, q4, q5, m1, r1, r2, r3, r4, n1, t1, t2, t3, prog_lo, Ev.runFunc, Ev.exec, Ev.evOpers, Ev.evOper, Ev.item_op, Ev.item_P, Ev.evOp, Ev.evs, Ev.Opnd.ev, Ev.Env.get, Ev.Env.set, Ev.look, Ev.argVars, Ev.resVals, Ev.resVal, Ev.resOf, Ev.kill, Ev.leave, Ev.settle, Ev.keep, Ev.varsLo, Ev.marksLo, Ev.storeLo, Ev.lo_v, Ev.lo_fsl, Ev.los_nil, Ev.los_cons, Ev.frz_lo, ↓Ev.obind, ↓Ev.itL_itB, ↓reduceIte, List.length_cons, List.length_nil, List.take_nil, Nat.reduceAdd, Nat.reduceEqDiff, reduceCtorEq, Bool.and_self, Bool.not_true, Bool.false_eq_true, Bool.true_eq_false, and_self, Nat.zero_add, eq_self]
      · simp only [c_ref18_Check, checkZ, h0, hs, k1, q1, q2, q3, q4, q5, m1, r1, r2, r3, prog_lo, Ev.runFunc, Ev.exec, Ev.evOpers, Ev.evOper, Ev.item_op, Ev.item_P, Ev.evOp, Ev.evs, Ev.Opnd.ev, Ev.Env.get, Ev.Env.set, Ev.look, Ev.argVars, Ev.resVals, Ev.resVal, Ev.resOf, Ev.kill, Ev.leave, Ev.settle, Ev.keep, Ev.varsLo, Ev.marksLo, Ev.storeLo, Ev.lo_v, Ev.lo_fsl, Ev.los_nil, Ev.los_cons, Ev.frz_lo, ↓Ev.obind, ↓Ev.itL_itB, ↓reduceIte, List.length_cons, List.length_nil, List.take_nil, Nat.reduceAdd, Nat.reduceEqDiff, reduceCtorEq, Bool.and_self, Bool.not_true, Bool.false_eq_true, Bool.true_eq_false, and_self, Nat.zero_add, eq_self]
    · simp only [c_ref18_Check, checkZ, h0, hs, k1, q1, q2, q3, prog_lo, Ev.runFunc, Ev.exec, Ev.evOpers, Ev.evOper, Ev.item_op, Ev.item_P, Ev.evOp, Ev.evs, Ev.Opnd.ev, Ev.Env.get, Ev.Env.set, Ev.look, Ev.argVars, Ev.resVals, Ev.resVal, Ev.resOf, Ev.kill, Ev.leave, Ev.settle, Ev.keep, Ev.varsLo, Ev.marksLo, Ev.storeLo, Ev.lo_v, Ev.lo_fsl, Ev.los_nil, Ev.los_cons, Ev.frz_lo, ↓Ev.obind, ↓Ev.itL_itB, ↓reduceIte, List.length_cons, List.length_nil, List.take_nil, Nat.reduceAdd, Nat.reduceEqDiff, reduceCtorEq, Bool.and_self, Bool.not_true, Bool.false_eq_true, Bool.true_eq_false, and_self, Nat.zero_add, eq_self]
end
end Go.Proofs.Ythkjkdbjgpeigaa.K
namespace Go.Proofs.Ythkjkdbjgpeigaa.K
open Go.Ev
set_option linter.unusedSimpArgs false
set_option linter.unusedVariables false
set_option maxRecDepth 10000
structure Pr where
  prog : Int
  pc : Int
  alive : Bool
  timer : List Int
  deriving DecidableEq
def Pr.r (x : Pr) : List AV := [(.v (.int .i64 (x.prog))), (.v (.int .i64 (x.pc))), (.v (.bool (x.alive))), (.fsl ((x.timer).map intC) false)]
theorem pr_lo (n : Nat) (x : Pr) : los n x.r = true := by simp only [Pr.r, ints_lo, Ev.lo_v, Ev.lo_fsl, Ev.los_nil, Ev.los_cons, Bool.and_self, eq_self]
theorem pr_pl (x : Pr) : x.r.length = 4 ∧ plains x.r = true := ⟨rfl, rfl⟩
theorem procs_lo (n : Nat) (l : List Pr) : loss n (l.map Pr.r) = true := loss_map (pr_lo n) l
theorem procs_ok (l : List Pr) : okRows 4 (l.map Pr.r) = true := okRows_map pr_pl l
structure Evt where
  time : Int
  key : List Int
  lp : Int
  kind : Int
  proc : Int
  arg : Int
  deriving DecidableEq
def Evt.r (x : Evt) : List AV := [(.v (.int .i64 (x.time))), (.fsl ((x.key).map intC) false), (.v (.int .i64 (x.lp))), (.v (.int .i64 (x.kind))), (.v (.int .i64 (x.proc))), (.v (.int .i64 (x.arg)))]
theorem evt_lo (n : Nat) (x : Evt) : los n x.r = true := by simp only [Evt.r, ints_lo, Ev.lo_v, Ev.lo_fsl, Ev.los_nil, Ev.los_cons, Bool.and_self, eq_self]
theorem evt_pl (x : Evt) : x.r.length = 6 ∧ plains x.r = true := ⟨rfl, rfl⟩
theorem evts_lo (n : Nat) (l : List Evt) : loss n (l.map Evt.r) = true := loss_map (evt_lo n) l
theorem evts_ok (l : List Evt) : okRows 6 (l.map Evt.r) = true := okRows_map evt_pl l
structure Lp where
  r0 : Int
  r1 : Int
  procs : List Pr
  sum : Int
  deriving DecidableEq
def Lp.r (x : Lp) : List AV := [(.v (.int .i64 (x.r0))), (.v (.int .i64 (x.r1))), (.fsl ((x.procs).map Pr.r) false), (.v (.int .i64 (x.sum)))]
structure Ex where
  r0 : Int
  r1 : Int
  procs : List Pr
  sum : Int
  ev : Evt
  out : List Evt
  n : Int
  gone : List (List Int)
  over : Bool
def Ex.kid (x : Ex) : List Int := x.ev.key ++ [x.n]
def Ex.create (x : Ex) (d : Int) (e : Evt) : Ex :=
  { x with n := w64 (x.n + 1), out := if w64 (x.ev.time + d) > 1152921504606846976 then x.out else x.out ++ [⟨w64 (x.ev.time + d), x.kid, e.lp, e.kind, e.proc, e.arg⟩],
           over := if w64 (x.ev.time + d) > 1152921504606846976 then true else x.over }
structure Ex.Small (x : Ex) : Prop where
  procs : x.procs.length ≤ 1000
  out : x.out.length ≤ 1000
  gone : x.gone.length ≤ 1000
  key : x.ev.key.length ≤ 1000
theorem eq_ints (l : List Int) : eqBss (l.map intC) (l.map intC) = true := eqBss_map (fun x => by simp only [intC, Ev.eqBs_nil, Ev.eqBs_cons, Ev.eqB_int, decide_true, Bool.and_self, eq_self]) l
theorem eq_procs (l : List Pr) : eqBss (l.map Pr.r) (l.map Pr.r) = true := eqBss_map (fun x => by simp only [Pr.r, eq_ints, Ev.eqBs_nil, Ev.eqBs_cons, Ev.eqB_int, Ev.eqB_bool, Ev.eqB_fsl, decide_true, Bool.and_self, eq_self, beq_self_eq_true]) l
theorem eq_evts (l : List Evt) : eqBss (l.map Evt.r) (l.map Evt.r) = true := eqBss_map (fun x => by simp only [Evt.r, eq_ints, Ev.eqBs_nil, Ev.eqBs_cons, Ev.eqB_int, Ev.eqB_fsl, decide_true, Bool.and_self, eq_self, beq_self_eq_true]) l
theorem eq_keys (l : List (List Int)) : eqBss (l.map keyC) (l.map keyC) = true := eqBss_map (fun x => by simp only [keyC, eq_ints, Ev.eqBs_nil, Ev.eqBs_cons, Ev.eqB_fsl, Bool.and_self, eq_self, beq_self_eq_true]) l
end Go.Proofs.Ythkjkdbjgpeigaa.K
namespace Go.Proofs.Ythkjkdbjgpeigaa.K
open Go.Ev
set_option linter.unusedSimpArgs false
set_option linter.unusedVariables false
set_option maxRecDepth 10000
theorem zip_all_eq {α : Type} [DecidableEq α] : ∀ {a b : List α}, a.length = b.length → ((a.zip b).all (fun z => decide (z.1 = z.2)) = true ↔ a = b)
  | [], [], _ => by simp
  | x :: a, y :: b, h => by
    rw [List.zip_cons_cons, List.all_cons, Bool.and_eq_true, decide_eq_true_eq, zip_all_eq (a := a) (b := b) (by simpa using h), List.cons.injEq]
  | [], _ :: _, h => by simp at h
  | _ :: _, [], h => by simp at h
section
variable (a b : List Int) (c d : Bool)
theorem slices_Equal_L (hab : a.length = b.length) (hl : a.length ≤ 9223372036854775807) :
    ∃ y, itB (exec (evL T) itL none c_slices_Equal_Lint_int_L1) (Ev.settle [0, 1, 12, 13] true 0) ⟨[(0, (.fsl ((a).map intC) c)), (1, (.fsl ((b).map intC) d)), (12, (.v (.int .i64 (a.length)))), (13, (.v (.int .i64 (0))))], []⟩ [] = some y ∧ ((a.zip b).all (fun z => decide (z.1 = z.2)) = true ∧ (y.1 = .exit 0 ∧ y.2.1.marks = [] ∧ y.2.2 = []) ∨
      (a.zip b).all (fun z => decide (z.1 = z.2)) = false ∧ ∃ x, (a.zip b).find? (fun z => !decide (z.1 = z.2)) = some x ∧ (y.1 = .ret ∧ y.2.1.marks = [] ∧ y.2.2 = [] ∧ Ev.look y.2.1.vars 4 = some (.v (.bool (false))))) := by
  have hzl : (a.zip b).length = a.length := by rw [List.length_zip, ← hab, Nat.min_self]
  refine itB_find (a.zip b) (fun i => ⟨[(0, (.fsl ((a).map intC) c)), (1, (.fsl ((b).map intC) d)), (12, (.v (.int .i64 (a.length)))), (13, (.v (.int .i64 (i))))], []⟩) [] (fun z => decide (z.1 = z.2)) _ (fun _ y => _) ?_ ?_ ?_
  · intro i x hi hx hp
    rw [hzl] at hi
    have hi' : (i : Int) < (a.length : Int) := by omega
    have hw : IntKind.i64.wrap ((i : Int) + 1) = ((i + 1 : Nat) : Int) := by rw [w64_small (by omega) (by omega)]; simp
    obtain ⟨hxa, hxb⟩ := List.getElem?_zip_eq_some.1 hx
    have hp' := of_decide_eq_true hp
    simp only [c_slices_Equal_Lint_int_L1, Int.natCast_nonneg, Int.toNat_natCast, List.getElem?_map, Option.map_some, hxa, hxb, hi', hw, hp', ints_lo, intC, Ev.exec, Ev.evOpers, Ev.evOper, Ev.item_op, Ev.evOp, Ev.Opnd.ev, Ev.Env.get, Ev.Env.set, Ev.look, Ev.cellsAt, Ev.loadC, Ev.bin_add, Ev.bin_neq, Ev.bin_lss, Ev.settle, Ev.keep, Ev.varsLo, Ev.marksLo, Ev.storeLo, Ev.lo_v, Ev.lo_fsl, ↓Ev.obind, Ev.it1, ↓reduceIte, List.length_cons, List.length_nil, List.take_nil, List.head?_cons, Nat.reduceEqDiff, reduceCtorEq, decide_true, decide_false, Bool.and_self, Bool.false_eq_true, and_self, ne_eq, not_true_eq_false, Nat.zero_add, eq_self]
  · intro i x hi hx hp
    rw [hzl] at hi
    have hi' : (i : Int) < (a.length : Int) := by omega
    obtain ⟨hxa, hxb⟩ := List.getElem?_zip_eq_some.1 hx
    have hp' : ¬ x.1 = x.2 := of_decide_eq_false hp
    simp only [c_slices_Equal_Lint_int_L1, Int.natCast_nonneg, Int.toNat_natCast, List.getElem?_map, Option.map_some, hxa, hxb, hi', hp', intC, Ev.exec, Ev.evOpers, Ev.evOper, Ev.item_op, Ev.evOp, Ev.Opnd.ev, Ev.Env.get, Ev.Env.set, Ev.look, Ev.cellsAt, Ev.loadC, Ev.bin_neq, Ev.bin_lss, ↓Ev.obind, Ev.it1, ↓reduceIte, List.length_cons, List.length_nil, List.head?_cons, Nat.reduceEqDiff, reduceCtorEq, decide_true, Bool.false_eq_true, ne_eq, not_false_eq_true, Nat.zero_add, eq_self]
    exact ⟨_, rfl, rfl, rfl, rfl, rfl⟩
  · rw [hzl]
    simp only [c_slices_Equal_Lint_int_L1, Int.lt_irrefl, Ev.exec, Ev.evOpers, Ev.evOper, Ev.item_op, Ev.evOp, Ev.Opnd.ev, Ev.Env.get, Ev.Env.set, Ev.look, Ev.bin_lss, ↓Ev.obind, Ev.it1, ↓reduceIte, Nat.reduceEqDiff, reduceCtorEq, decide_false, Bool.false_eq_true, eq_self]
    exact ⟨_, rfl, rfl, rfl, rfl⟩
theorem slices_Equal_ev (hl : a.length ≤ 9223372036854775807) (hl2 : b.length ≤ 9223372036854775807) : callZ (evL T) n_slices_Equal_Lint_int [(.fsl ((a).map intC) c), (.fsl ((b).map intC) d)] = some (.v (.bool (decide (a = b)))) := by
  rw [callZ, evL_code ext_slices_Equal_Lint_int code_slices_Equal_Lint_int]
  by_cases hab : a.length = b.length
  · have hab' : (a.length : Int) = (b.length : Int) := by omega
    obtain ⟨⟨y, e, σ⟩, k1, k2⟩ := slices_Equal_L a b c d hab hl
    simp only at k2
    rcases k2 with ⟨k3, rfl, k4, rfl⟩ | ⟨k3, x, _, rfl, k4, rfl, k5⟩
    · have : a = b := (zip_all_eq hab).1 k3
      rw [hab'] at k1
      simp only [c_slices_Equal_Lint_int, this, ints_lo, Ev.runFunc, Ev.exec, Ev.evOpers, Ev.evOper, Ev.item_op, Ev.evOp, Ev.Opnd.ev, Ev.Env.get, Ev.Env.set, Ev.look, Ev.argVars, Ev.bin_neq, Ev.resVals, Ev.resVal, Ev.resOf, Ev.leave, Ev.settle, Ev.keep, Ev.varsLo, Ev.marksLo, Ev.storeLo, Ev.lo_v, Ev.lo_fsl, List.length_map, ↓Ev.obind, ↓Ev.itL_itB, ↓reduceIte, List.length_cons, List.length_nil, List.take_zero, List.take_nil, Nat.reduceAdd, Nat.reduceEqDiff, reduceCtorEq, decide_true, decide_false, Bool.and_self, Bool.false_eq_true, and_self, and_true, ne_eq, not_true_eq_false, Nat.zero_add, eq_self]
      subst this
      simp only [k1, k4, Ev.look, Ev.kill, Ev.lo_v, Ev.frz_lo, ↓reduceIte, eq_self]
    · have : ¬ a = b := fun h => by rw [(zip_all_eq hab).2 h] at k3; cases k3
      simp only [this]
      rw [hab'] at k1
      simp only [c_slices_Equal_Lint_int, hab', k1, k4, k5, ints_lo, Ev.runFunc, Ev.exec, Ev.evOpers, Ev.evOper, Ev.item_op, Ev.evOp, Ev.Opnd.ev, Ev.Env.get, Ev.Env.set, Ev.look, Ev.argVars, Ev.bin_neq, Ev.resVals, Ev.resVal, Ev.resOf, Ev.kill, Ev.leave, Ev.settle, Ev.keep, Ev.varsLo, Ev.marksLo, Ev.storeLo, Ev.lo_v, Ev.lo_fsl, Ev.frz_lo, List.length_map, ↓Ev.obind, ↓Ev.itL_itB, ↓reduceIte, List.length_cons, List.length_nil, List.take_nil, Nat.reduceAdd, Nat.reduceEqDiff, reduceCtorEq, decide_false, Bool.and_self, Bool.false_eq_true, and_self, ne_eq, not_true_eq_false, Nat.zero_add, eq_self]
  · have hab' : ¬ (a.length : Int) = (b.length : Int) := by omega
    have : ¬ a = b := fun h => hab (by rw [h])
    simp only [c_slices_Equal_Lint_int, hab', this, Ev.runFunc, Ev.exec, Ev.evOpers, Ev.evOper, Ev.item_op, Ev.evOp, Ev.Opnd.ev, Ev.Env.get, Ev.Env.set, Ev.look, Ev.argVars, Ev.bin_neq, Ev.resVals, Ev.resVal, Ev.resOf, Ev.kill, Ev.leave, Ev.storeLo, Ev.lo_v, Ev.frz_lo, List.length_map, ↓Ev.obind, ↓reduceIte, List.length_cons, List.length_nil, List.take_nil, Nat.reduceAdd, Nat.reduceEqDiff, reduceCtorEq, decide_true, decide_false, and_self, ne_eq, not_false_eq_true, Nat.zero_add, eq_self]
end
end Go.Proofs.Ythkjkdbjgpeigaa.K
namespace Go.Proofs.Ythkjkdbjgpeigaa.K
open Go.Ev
set_option linter.unusedSimpArgs false
set_option linter.unusedVariables false
theorem storeLo_app (n : Nat) : ∀ (a b : Store), storeLo n (a ++ b) = (storeLo n a && storeLo n b)
  | [], b => by simp [storeLo]
  | x :: a, b => by simp only [List.cons_append, storeLo, storeLo_app n a b, Bool.and_assoc]
theorem storeLo_mem {n : Nat} : ∀ {σ : Store}, storeLo n σ = true ↔ ∀ x ∈ σ, SObj.lo n x = true
  | [] => by simp [storeLo]
  | x :: a => by simp only [storeLo, Bool.and_eq_true, storeLo_mem (σ := a), List.mem_cons, forall_eq_or_imp]
theorem storeLo_set {n : Nat} {σ : Store} (h : storeLo n σ = true) (i : Nat) {x : SObj} (hx : x.lo n = true) : storeLo n (σ.set i x) = true := by
  rw [storeLo_mem] at h ⊢
  intro y hy
  rcases List.mem_or_eq_of_mem_set hy with hy | rfl
  · exact h y hy
  · exact hx
mutual
theorem av_lo_mono {n m : Nat} (h : n ≤ m) : ∀ (a : AV), a.lo n = true → a.lo m = true
  | .v _, _ => by simp only [AV.lo]
  | .agg cs, k => by simp only [AV.lo] at k ⊢; exact los_mono h cs k
  | .tup cs, k => by simp only [AV.lo] at k ⊢; exact los_mono h cs k
  | .fsl es _, k => by simp only [AV.lo] at k ⊢; exact loss_mono h es k
  | .fptr cs, k => by simp only [AV.lo] at k ⊢; exact los_mono h cs k
  | .sl o _ _ _ _, k => by simp only [AV.lo, decide_eq_true_eq] at k ⊢; omega
  | .ptr o _ _ _, k => by simp only [AV.lo, decide_eq_true_eq] at k ⊢; omega
  | .fn _ a b, k => by simp only [AV.lo, Bool.and_eq_true] at k ⊢; exact ⟨los_mono h a k.1, los_mono h b k.2⟩
  | .yld o, k => by simp only [AV.lo, decide_eq_true_eq] at k ⊢; omega
  | .mp o, k => by simp only [AV.lo, decide_eq_true_eq] at k ⊢; omega
theorem los_mono {n m : Nat} (h : n ≤ m) : ∀ (l : List AV), los n l = true → los m l = true
  | [], _ => by simp only [los]
  | a :: l, k => by simp only [los, Bool.and_eq_true] at k ⊢; exact ⟨av_lo_mono h a k.1, los_mono h l k.2⟩
theorem loss_mono {n m : Nat} (h : n ≤ m) : ∀ (es : List (List AV)), loss n es = true → loss m es = true
  | [], _ => by simp only [loss]
  | a :: l, k => by simp only [loss, Bool.and_eq_true] at k ⊢; exact ⟨los_mono h a k.1, loss_mono h l k.2⟩
end
theorem varsLo_mono {n m : Nat} (h : n ≤ m) : ∀ (l : List (Nat × AV)), varsLo n l = true → varsLo m l = true
  | [], _ => by simp only [varsLo]
  | (_, a) :: r, k => by simp only [varsLo, Bool.and_eq_true] at k ⊢; exact ⟨av_lo_mono h a k.1, varsLo_mono h r k.2⟩
theorem obj_lo_mono {n m : Nat} (h : n ≤ m) (o : SObj) (k : o.lo n = true) : o.lo m = true := by
  cases o <;> simp only [SObj.lo] at k ⊢
  · exact loss_mono h _ k
  · exact varsLo_mono h _ k
theorem storeLo_mono {n m : Nat} (h : n ≤ m) {σ : Store} (k : storeLo n σ = true) : storeLo m σ = true := by
  rw [storeLo_mem] at k ⊢
  exact fun x hx => obj_lo_mono h x (k x hx)
end Go.Proofs.Ythkjkdbjgpeigaa.K
namespace Go.Proofs.Ythkjkdbjgpeigaa.K
open Go.Ev
set_option linter.unusedSimpArgs false
set_option linter.unusedVariables false
set_option maxRecDepth 10000
theorem loss_app (n : Nat) : ∀ (a b : List (List AV)), loss n (a ++ b) = (loss n a && loss n b)
  | [], b => by simp [loss_nil]
  | x :: a, b => by rw [List.cons_append, loss_cons, loss_cons, loss_app n a b, Bool.and_assoc]
theorem clone_ints_ev (l : List Int) (c : Bool) (h : l.length ≤ 1000) : (evL T).call n_slices_Clone_Lint_int [(.fsl ((l).map intC) c)] [] = some (.sl 0 0 0 l.length false, [.row 1 (l.map intC) 0]) := by
  have h' : l.length * 8 ≤ 140737488355328 := by omega
  rw [evL_ext ext_slices_Clone_Lint_int]
  simp only [cloneF, ints_lo, ints_ok, h', Nat.lt_add_one, Ev.lo_fsl, Ev.los_nil, Ev.los_cons, List.length_map, ↓reduceIte, Nat.reducePow, Bool.and_self, and_self, Nat.lt_add_one, eq_self]
theorem evkey_Child_ev (l : List Int) (c : Bool) (n : Int) (h : l.length ≤ 1000) : callZ (evL T) n_evkey_Child [(.fsl ((l).map intC) c), (.v (.int .i64 (n)))] = some (.fsl ((l ++ [n]).map intC) false) := by
  have h' : (l.length + 1) * 8 ≤ 140737488355328 := by omega
  have htl : List.take l.length (l.map intC) = l.map intC := List.take_of_length_le (by simp)
  have htk : ∀ e : List AV, List.take (l.length + 1) (l.map intC ++ [e]) = l.map intC ++ [e] := fun e => List.take_of_length_le (by simp)
  have hr : (l ++ [n]).map intC = l.map intC ++ [[(.v (.int .i64 (n)))]] := by rw [List.map_append]; rfl
  rw [callZ, evL_code ext_evkey_Child code_evkey_Child]
  rw [hr]
  simp only [c_evkey_Child, clone_ints_ev l c h, h', htl, htk, loss_app, ints_lo, Ev.runFunc, Ev.exec, Ev.evOpers, Ev.evOper, Ev.item_op, Ev.item_A, Ev.impO, Ev.AV.shift, Ev.evOp, Ev.appE, Ev.evs, Ev.Opnd.ev, Ev.Env.get, Ev.Env.set, Ev.look, Ev.argVars, Ev.content, Ev.fillR, Ev.AV.cells, Ev.AV.uc, Ev.plains, Ev.AV.plain, Ev.resVals, Ev.resVal, Ev.resOf, Ev.kill, Ev.leave, Ev.storeLo, Ev.lo_v, Ev.lo_fsl, Ev.lo_sl, Ev.los_nil, Ev.los_cons, Ev.loss_nil, Ev.loss_cons, Ev.okRows_nil, Ev.okRows_cons, Ev.frz_own, Ev.omap_los, Ev.omap_nil, Ev.omap_cons, Ev.shiftss_lo, List.replicate_one, List.length_map, ↓Ev.obind, ↓reduceIte, List.length_cons, List.length_nil, List.length_append, List.getElem?_cons_zero, List.take_zero, List.drop_zero, List.nil_append, List.set_cons_zero, Nat.reduceAdd, Nat.reduceEqDiff, Nat.reduceMul, Nat.reduceLT, Nat.reduceLeDiff, Nat.reducePow, reduceCtorEq, decide_true, decide_false, Bool.and_self, Bool.false_eq_true, and_self, and_true, ne_eq, not_false_eq_true, List.cons_ne_nil, Nat.zero_add, Nat.add_zero, Nat.lt_add_one, Nat.le_refl, eq_self]
end Go.Proofs.Ythkjkdbjgpeigaa.K
namespace Go.Proofs.Ythkjkdbjgpeigaa.K
open Go.Ev
set_option linter.unusedSimpArgs false
set_option linter.unusedVariables false
set_option maxRecDepth 10000
def tableL : List (Int × AV) := [(1, .fn (.func n_process_execution_hold) [] []), (2, .fn (.func n_process_execution_send) [] []), (3, .fn (.func n_process_execution_timer) [] []), (4, .fn (.func n_process_execution_stop) [] []), (5, .fn (.func n_process_execution_spawn) [] []), (6, .fn (.func n_process_execution_add) [] []), (7, .fn (.func n_process_execution_less) [] []), (8, .fn (.func n_process_execution_end) [] [])]
section
variable (a0 a1 a2 : Int) (am : Nat) (x : Ex) (gp gc gg : Nat)
theorem self7_ev (i : Nat) (hi : x.ev.proc = i) (hp : i < x.procs.length) :
    (evL T).call n_process_execution_self [.ptr 5 0 0 0] [.row 4 [[(.v (.int .i64 (a0))), (.v (.int .i64 (a1))), .sl 2 0 0 am false, (.v (.int .i64 (a2)))]] 0, .row 4 [[(.v (.int .i64 (0))), (.v (.int .i64 (0))), .fsl [] false, (.v (.int .i64 (0)))]] 0, .row 4 ((x.procs).map Pr.r) gp, .row 6 ((x.out).map Evt.r) gc, .row 1 ((x.gone).map keyC) gg, .row 14 [[(.v (.int .i64 (x.r0))), (.v (.int .i64 (x.r1))), .sl 2 gp 0 x.procs.length false, (.v (.int .i64 (x.sum))), (.v (.int .i64 (x.ev.time))), (.fsl ((x.ev.key).map intC) false), (.v (.int .i64 (x.ev.lp))), (.v (.int .i64 (x.ev.kind))), (.v (.int .i64 (x.ev.proc))), (.v (.int .i64 (x.ev.arg))), .sl 3 gc 0 x.out.length false, (.v (.int .i64 (x.n))), .sl 4 gg 0 x.gone.length false, (.v (.bool (x.over)))]] 0, .mp .i64 tableL] = some (.ptr 2 gp i 0, [.row 4 [[(.v (.int .i64 (a0))), (.v (.int .i64 (a1))), .sl 2 0 0 am false, (.v (.int .i64 (a2)))]] 0, .row 4 [[(.v (.int .i64 (0))), (.v (.int .i64 (0))), .fsl [] false, (.v (.int .i64 (0)))]] 0, .row 4 ((x.procs).map Pr.r) gp, .row 6 ((x.out).map Evt.r) gc, .row 1 ((x.gone).map keyC) gg, .row 14 [[(.v (.int .i64 (x.r0))), (.v (.int .i64 (x.r1))), .sl 2 gp 0 x.procs.length false, (.v (.int .i64 (x.sum))), (.v (.int .i64 (x.ev.time))), (.fsl ((x.ev.key).map intC) false), (.v (.int .i64 (x.ev.lp))), (.v (.int .i64 (x.ev.kind))), (.v (.int .i64 (x.ev.proc))), (.v (.int .i64 (x.ev.arg))), .sl 3 gc 0 x.out.length false, (.v (.int .i64 (x.n))), .sl 4 gg 0 x.gone.length false, (.v (.bool (x.over)))]] 0, .mp .i64 tableL]) := by
  rw [evL_code ext_process_execution_self code_process_execution_self]
  simp only [c_process_execution_self, hi, hp, Int.natCast_nonneg, Int.toNat_natCast, ints_lo, procs_lo, evts_lo, keys_lo, Nat.reduceLT, Ev.runFunc, Ev.exec, Ev.evOpers, Ev.evOper, Ev.item_op, Ev.evOp, Ev.Opnd.ev, Ev.Env.get, Ev.Env.set, Ev.look, Ev.argVars, Ev.cellsAt, Ev.loadC, Ev.resVals, Ev.resVal, Ev.resOf, Ev.kill, Ev.leave, Ev.storeLo, Ev.SObj.lo, Ev.lo_v, Ev.lo_fsl, Ev.lo_sl, Ev.lo_ptr, Ev.los_nil, Ev.los_cons, Ev.loss_nil, Ev.loss_cons, ↓Ev.obind, ↓reduceIte, List.length_cons, List.length_nil, List.getElem?_cons_zero, List.getElem?_cons_succ, List.take_succ_cons, List.take_nil, List.drop_succ_cons, List.drop_zero, List.head?_cons, Nat.reduceAdd, Nat.reduceEqDiff, Nat.reduceLT, reduceCtorEq, decide_true, Bool.and_self, Bool.false_eq_true, and_self, Nat.zero_add, Nat.add_zero, eq_self]
theorem own_ev (k p a : Int) : (evL T).call n_process_execution_own [.ptr 5 0 0 0, (.v (.int .i64 (k))), (.v (.int .i64 (p))), (.v (.int .i64 (a)))] [.row 4 [[(.v (.int .i64 (a0))), (.v (.int .i64 (a1))), .sl 2 0 0 am false, (.v (.int .i64 (a2)))]] 0, .row 4 [[(.v (.int .i64 (0))), (.v (.int .i64 (0))), .fsl [] false, (.v (.int .i64 (0)))]] 0, .row 4 ((x.procs).map Pr.r) gp, .row 6 ((x.out).map Evt.r) gc, .row 1 ((x.gone).map keyC) gg, .row 14 [[(.v (.int .i64 (x.r0))), (.v (.int .i64 (x.r1))), .sl 2 gp 0 x.procs.length false, (.v (.int .i64 (x.sum))), (.v (.int .i64 (x.ev.time))), (.fsl ((x.ev.key).map intC) false), (.v (.int .i64 (x.ev.lp))), (.v (.int .i64 (x.ev.kind))), (.v (.int .i64 (x.ev.proc))), (.v (.int .i64 (x.ev.arg))), .sl 3 gc 0 x.out.length false, (.v (.int .i64 (x.n))), .sl 4 gg 0 x.gone.length false, (.v (.bool (x.over)))]] 0, .mp .i64 tableL] = some (.agg [(.v (.int .i64 (0))), .fsl [] false, (.v (.int .i64 (x.ev.lp))), (.v (.int .i64 (k))), (.v (.int .i64 (p))), (.v (.int .i64 (a)))], [.row 4 [[(.v (.int .i64 (a0))), (.v (.int .i64 (a1))), .sl 2 0 0 am false, (.v (.int .i64 (a2)))]] 0, .row 4 [[(.v (.int .i64 (0))), (.v (.int .i64 (0))), .fsl [] false, (.v (.int .i64 (0)))]] 0, .row 4 ((x.procs).map Pr.r) gp, .row 6 ((x.out).map Evt.r) gc, .row 1 ((x.gone).map keyC) gg, .row 14 [[(.v (.int .i64 (x.r0))), (.v (.int .i64 (x.r1))), .sl 2 gp 0 x.procs.length false, (.v (.int .i64 (x.sum))), (.v (.int .i64 (x.ev.time))), (.fsl ((x.ev.key).map intC) false), (.v (.int .i64 (x.ev.lp))), (.v (.int .i64 (x.ev.kind))), (.v (.int .i64 (x.ev.proc))), (.v (.int .i64 (x.ev.arg))), .sl 3 gc 0 x.out.length false, (.v (.int .i64 (x.n))), .sl 4 gg 0 x.gone.length false, (.v (.bool (x.over)))]] 0, .mp .i64 tableL]) := by
  rw [evL_code ext_process_execution_own code_process_execution_own]
  simp only [c_process_execution_own, ints_lo, procs_lo, evts_lo, keys_lo, Nat.reduceLT, Nat.reduceLeDiff, Ev.runFunc, Ev.exec, Ev.evOpers, Ev.evOper, Ev.item_op, Ev.evOp, Ev.Opnd.ev, Ev.Env.get, Ev.Env.set, Ev.look, Ev.argVars, Ev.cellsAt, Ev.loadC, Ev.fillP, Ev.AV.cells, Ev.AV.uc, Ev.plains, Ev.AV.plain, Ev.resVals, Ev.resVal, Ev.resOf, Ev.kill, Ev.leave, Ev.storeLo, Ev.SObj.lo, Ev.lo_v, Ev.lo_agg, Ev.lo_fsl, Ev.lo_sl, Ev.los_nil, Ev.los_cons, Ev.loss_nil, Ev.loss_cons, ↓Ev.obind, ↓reduceIte, List.length_cons, List.length_nil, List.getElem?_cons_zero, List.getElem?_cons_succ, List.take_succ_cons, List.take_zero, List.take_nil, List.drop_succ_cons, List.drop_zero, List.drop_nil, List.cons_append, List.nil_append, List.append_nil, List.set_cons_zero, List.set_cons_succ, List.head?_cons, Nat.reduceAdd, Nat.reduceEqDiff, Nat.reduceLT, Nat.reduceLeDiff, reduceCtorEq, decide_true, Bool.and_self, Bool.false_eq_true, and_self, ne_eq, not_false_eq_true, List.cons_ne_nil, Nat.zero_add, Nat.le_refl, eq_self]
def createG (x : Ex) (d : Int) (gc : Nat) : Nat := if w64 (x.ev.time + d) > 1152921504606846976 then gc else gc + 1
theorem create_ev (h : x.Small) (d : Int) (t0 lp k p a : Int) (ks : List Int) :
    (evL T).call n_process_execution_create [.ptr 5 0 0 0, (.v (.int .i64 (d))), .agg [(.v (.int .i64 (t0))), (.fsl ((ks).map intC) false), (.v (.int .i64 (lp))), (.v (.int .i64 (k))), (.v (.int .i64 (p))), (.v (.int .i64 (a)))]] [.row 4 [[(.v (.int .i64 (a0))), (.v (.int .i64 (a1))), .sl 2 0 0 am false, (.v (.int .i64 (a2)))]] 0, .row 4 [[(.v (.int .i64 (0))), (.v (.int .i64 (0))), .fsl [] false, (.v (.int .i64 (0)))]] 0, .row 4 ((x.procs).map Pr.r) gp, .row 6 ((x.out).map Evt.r) gc, .row 1 ((x.gone).map keyC) gg, .row 14 [[(.v (.int .i64 (x.r0))), (.v (.int .i64 (x.r1))), .sl 2 gp 0 x.procs.length false, (.v (.int .i64 (x.sum))), (.v (.int .i64 (x.ev.time))), (.fsl ((x.ev.key).map intC) false), (.v (.int .i64 (x.ev.lp))), (.v (.int .i64 (x.ev.kind))), (.v (.int .i64 (x.ev.proc))), (.v (.int .i64 (x.ev.arg))), .sl 3 gc 0 x.out.length false, (.v (.int .i64 (x.n))), .sl 4 gg 0 x.gone.length false, (.v (.bool (x.over)))]] 0, .mp .i64 tableL] = some ((.fsl ((x.kid).map intC) false), [.row 4 [[(.v (.int .i64 (a0))), (.v (.int .i64 (a1))), .sl 2 0 0 am false, (.v (.int .i64 (a2)))]] 0, .row 4 [[(.v (.int .i64 (0))), (.v (.int .i64 (0))), .fsl [] false, (.v (.int .i64 (0)))]] 0, .row 4 (((x.create d ⟨t0, ks, lp, k, p, a⟩).procs).map Pr.r) gp, .row 6 (((x.create d ⟨t0, ks, lp, k, p, a⟩).out).map Evt.r) (createG x d gc), .row 1 (((x.create d ⟨t0, ks, lp, k, p, a⟩).gone).map keyC) gg, .row 14 [[(.v (.int .i64 ((x.create d ⟨t0, ks, lp, k, p, a⟩).r0))), (.v (.int .i64 ((x.create d ⟨t0, ks, lp, k, p, a⟩).r1))), .sl 2 gp 0 (x.create d ⟨t0, ks, lp, k, p, a⟩).procs.length false, (.v (.int .i64 ((x.create d ⟨t0, ks, lp, k, p, a⟩).sum))), (.v (.int .i64 ((x.create d ⟨t0, ks, lp, k, p, a⟩).ev.time))), (.fsl (((x.create d ⟨t0, ks, lp, k, p, a⟩).ev.key).map intC) false), (.v (.int .i64 ((x.create d ⟨t0, ks, lp, k, p, a⟩).ev.lp))), (.v (.int .i64 ((x.create d ⟨t0, ks, lp, k, p, a⟩).ev.kind))), (.v (.int .i64 ((x.create d ⟨t0, ks, lp, k, p, a⟩).ev.proc))), (.v (.int .i64 ((x.create d ⟨t0, ks, lp, k, p, a⟩).ev.arg))), .sl 3 (createG x d gc) 0 (x.create d ⟨t0, ks, lp, k, p, a⟩).out.length false, (.v (.int .i64 ((x.create d ⟨t0, ks, lp, k, p, a⟩).n))), .sl 4 gg 0 (x.create d ⟨t0, ks, lp, k, p, a⟩).gone.length false, (.v (.bool ((x.create d ⟨t0, ks, lp, k, p, a⟩).over)))]] 0, .mp .i64 tableL]) := by
  have hk := evkey_Child_ev x.ev.key false x.n h.key
  have hs : (x.out.length + 1) * 64 ≤ 140737488355328 := by have := h.out; omega
  have htl : List.take x.out.length (x.out.map Evt.r) = x.out.map Evt.r := List.take_of_length_le (by simp)
  have hlo : los 7 ([(.v (.int .i64 (x.r0))), (.v (.int .i64 (x.r1))), .sl 2 gp 0 x.procs.length false, (.v (.int .i64 (x.sum))), (.v (.int .i64 (x.ev.time))), (.fsl ((x.ev.key).map intC) false), (.v (.int .i64 (x.ev.lp))), (.v (.int .i64 (x.ev.kind))), (.v (.int .i64 (x.ev.proc))), (.v (.int .i64 (x.ev.arg))), .sl 3 gc 0 x.out.length false, (.v (.int .i64 (x.n))), .sl 4 gg 0 x.gone.length false, (.v (.bool (x.over)))]) = true := by simp only [ints_lo, Nat.reduceLT, Ev.lo_v, Ev.lo_fsl, Ev.lo_sl, Ev.los_nil, Ev.los_cons, Nat.reduceLT, decide_true, Bool.and_self, eq_self]
  rw [evL_code ext_process_execution_create code_process_execution_create]
  unfold Ex.create createG Ex.kid
  by_cases ho : w64 (x.ev.time + d) > 1152921504606846976
  · have ho' : IntKind.i64.wrap (x.ev.time + d) > 1152921504606846976 := ho
    simp only [ho, if_true]
    simp only [c_process_execution_create, hk, ho', ints_lo, procs_lo, evts_lo, keys_lo, Nat.reduceLT, Nat.reduceLeDiff, Ev.runFunc, Ev.exec, Ev.evOpers, Ev.evOper, Ev.item_op, Ev.item_P, Ev.evOp, Ev.evs, Ev.Opnd.ev, Ev.Env.get, Ev.Env.set, Ev.look, Ev.argVars, Ev.cellsAt, Ev.loadC, Ev.AV.cells, Ev.AV.uc, Ev.plains, Ev.AV.plain, Ev.bin_add, Ev.bin_gtr, Ev.resVals, Ev.resVal, Ev.resOf, Ev.kill, Ev.leave, Ev.storeLo, Ev.SObj.lo, Ev.lo_v, Ev.lo_fsl, Ev.lo_sl, Ev.los_nil, Ev.los_cons, Ev.loss_nil, Ev.loss_cons, ↓Ev.obind, ↓reduceIte, List.length_cons, List.length_nil, List.getElem?_cons_zero, List.getElem?_cons_succ, List.take_succ_cons, List.take_zero, List.drop_succ_cons, List.drop_zero, List.drop_nil, List.cons_append, List.nil_append, List.append_nil, List.set_cons_zero, List.set_cons_succ, List.head?_cons, Nat.reduceAdd, Nat.reduceEqDiff, Nat.reduceLT, Nat.reduceLeDiff, reduceCtorEq, decide_true, Bool.and_self, Bool.false_eq_true, and_self, ne_eq, not_false_eq_true, List.cons_ne_nil, Nat.zero_add, Nat.add_zero, Nat.le_refl, eq_self]
    done
  · have ho' : ¬ IntKind.i64.wrap (x.ev.time + d) > 1152921504606846976 := ho
    simp only [ho, if_false]
    have hr : ∀ e : Evt, (x.out ++ [e]).map Evt.r = x.out.map Evt.r ++ [e.r] := fun e => by rw [List.map_append]; rfl
    simp only [c_process_execution_create, hk, ho', hs, htl, hr, loss_app, Evt.r, ints_lo, procs_lo, evts_lo, keys_lo, Nat.reduceLT, Nat.reduceLeDiff, Ev.runFunc, Ev.exec, Ev.evOpers, Ev.evOper, Ev.item_op, Ev.item_P, Ev.evOp, Ev.appE, Ev.evs, Ev.Opnd.ev, Ev.Env.get, Ev.Env.set, Ev.look, Ev.argVars, Ev.cellsAt, Ev.content, Ev.loadC, Ev.fillR, Ev.AV.cells, Ev.AV.uc, Ev.plains, Ev.AV.plain, Ev.bin_add, Ev.bin_gtr, Ev.resVals, Ev.resVal, Ev.resOf, Ev.kill, Ev.leave, Ev.storeLo, Ev.SObj.lo, Ev.lo_v, Ev.lo_fsl, Ev.lo_sl, Ev.los_nil, Ev.los_cons, Ev.loss_nil, Ev.loss_cons, Ev.okRows_nil, Ev.okRows_cons, List.replicate_one, List.length_map, ↓Ev.obind, ↓reduceIte, List.length_cons, List.length_nil, List.length_append, List.getElem?_cons_zero, List.getElem?_cons_succ, List.take_succ_cons, List.take_zero, List.take_nil, List.drop_succ_cons, List.drop_zero, List.cons_append, List.nil_append, List.set_cons_zero, List.set_cons_succ, List.head?_cons, Nat.reduceAdd, Nat.reduceEqDiff, Nat.reduceMul, Nat.reduceLT, Nat.reduceLeDiff, Nat.reducePow, reduceCtorEq, decide_true, decide_false, Bool.and_self, Bool.false_eq_true, and_self, ne_eq, not_false_eq_true, List.cons_ne_nil, Nat.zero_add, Nat.add_zero, Nat.lt_add_one, Nat.le_refl, eq_self]
    done
end
end Go.Proofs.Ythkjkdbjgpeigaa.K
namespace Go.Proofs.Ythkjkdbjgpeigaa.K
open Go.Ev
set_option linter.unusedSimpArgs false
set_option linter.unusedVariables false
set_option maxRecDepth 10000
theorem eq_table : eqBm tableL tableL = true := by
  have h : decide (eqBm tableL tableL = true) = true := by kernel_rfl
  exact of_decide_eq_true h
def Ex.ownE (x : Ex) (k p a : Int) : Evt := ⟨0, [], x.ev.lp, k, p, a⟩
def Ex.setP (x : Ex) (i : Nat) (q : Pr) : Ex := { x with procs := x.procs.set i q }
def Ex.stopE (x : Ex) (i : Nat) (q : Pr) : Ex := if 0 < q.timer.length then { x with gone := x.gone ++ [q.timer], procs := x.procs.set i { q with timer := [] } } else x
section
variable (a0 a1 a2 : Int) (am : Nat) (x : Ex) (gp gc gg : Nat) (op : OpI)
theorem hold_ev (h : x.Small) : (evL T).call n_process_execution_hold [.ptr 5 0 0 0, (.agg [(.v (.int .i64 (op.code))), (.v (.int .i64 (op.a))), (.v (.int .i64 (op.b))), (.v (.int .i64 (op.c)))])] [.row 4 [[(.v (.int .i64 (a0))), (.v (.int .i64 (a1))), .sl 2 0 0 am false, (.v (.int .i64 (a2)))]] 0, .row 4 [[(.v (.int .i64 (0))), (.v (.int .i64 (0))), .fsl [] false, (.v (.int .i64 (0)))]] 0, .row 4 ((x.procs).map Pr.r) gp, .row 6 ((x.out).map Evt.r) gc, .row 1 ((x.gone).map keyC) gg, .row 14 [[(.v (.int .i64 (x.r0))), (.v (.int .i64 (x.r1))), .sl 2 gp 0 x.procs.length false, (.v (.int .i64 (x.sum))), (.v (.int .i64 (x.ev.time))), (.fsl ((x.ev.key).map intC) false), (.v (.int .i64 (x.ev.lp))), (.v (.int .i64 (x.ev.kind))), (.v (.int .i64 (x.ev.proc))), (.v (.int .i64 (x.ev.arg))), .sl 3 gc 0 x.out.length false, (.v (.int .i64 (x.n))), .sl 4 gg 0 x.gone.length false, (.v (.bool (x.over)))]] 0, .mp .i64 tableL] = some ((.v (.int .i64 (1))), [.row 4 [[(.v (.int .i64 (a0))), (.v (.int .i64 (a1))), .sl 2 0 0 am false, (.v (.int .i64 (a2)))]] 0, .row 4 [[(.v (.int .i64 (0))), (.v (.int .i64 (0))), .fsl [] false, (.v (.int .i64 (0)))]] 0, .row 4 (((x.create op.a (x.ownE 1 x.ev.proc 0)).procs).map Pr.r) gp, .row 6 (((x.create op.a (x.ownE 1 x.ev.proc 0)).out).map Evt.r) (createG x op.a gc), .row 1 (((x.create op.a (x.ownE 1 x.ev.proc 0)).gone).map keyC) gg, .row 14 [[(.v (.int .i64 ((x.create op.a (x.ownE 1 x.ev.proc 0)).r0))), (.v (.int .i64 ((x.create op.a (x.ownE 1 x.ev.proc 0)).r1))), .sl 2 gp 0 (x.create op.a (x.ownE 1 x.ev.proc 0)).procs.length false, (.v (.int .i64 ((x.create op.a (x.ownE 1 x.ev.proc 0)).sum))), (.v (.int .i64 ((x.create op.a (x.ownE 1 x.ev.proc 0)).ev.time))), (.fsl (((x.create op.a (x.ownE 1 x.ev.proc 0)).ev.key).map intC) false), (.v (.int .i64 ((x.create op.a (x.ownE 1 x.ev.proc 0)).ev.lp))), (.v (.int .i64 ((x.create op.a (x.ownE 1 x.ev.proc 0)).ev.kind))), (.v (.int .i64 ((x.create op.a (x.ownE 1 x.ev.proc 0)).ev.proc))), (.v (.int .i64 ((x.create op.a (x.ownE 1 x.ev.proc 0)).ev.arg))), .sl 3 (createG x op.a gc) 0 (x.create op.a (x.ownE 1 x.ev.proc 0)).out.length false, (.v (.int .i64 ((x.create op.a (x.ownE 1 x.ev.proc 0)).n))), .sl 4 gg 0 (x.create op.a (x.ownE 1 x.ev.proc 0)).gone.length false, (.v (.bool ((x.create op.a (x.ownE 1 x.ev.proc 0)).over)))]] 0, .mp .i64 tableL]) := by
  have h1 := own_ev a0 a1 a2 am x gp gc gg 1 x.ev.proc 0
  have h2 := create_ev a0 a1 a2 am x gp gc gg h op.a 0 x.ev.lp 1 x.ev.proc 0 []
  simp only [List.map_nil] at h2
  rw [evL_code ext_process_execution_hold code_process_execution_hold]
  simp only [c_process_execution_hold, h1, h2, Ex.ownE, ints_lo, procs_lo, evts_lo, keys_lo, Nat.reduceLT, Ev.runFunc, Ev.exec, Ev.evOpers, Ev.evOper, Ev.item_op, Ev.item_I, Ev.evOp, Ev.evs, Ev.Opnd.ev, Ev.Env.get, Ev.Env.set, Ev.look, Ev.argVars, Ev.cellsAt, Ev.loadC, Ev.AV.cells, Ev.plains, Ev.AV.plain, Ev.resVals, Ev.resVal, Ev.resOf, Ev.kill, Ev.leave, Ev.storeLo, Ev.SObj.lo, Ev.lo_v, Ev.lo_fsl, Ev.lo_sl, Ev.los_nil, Ev.los_cons, Ev.loss_nil, Ev.loss_cons, ↓Ev.obind, ↓reduceIte, List.length_cons, List.length_nil, List.getElem?_cons_zero, List.getElem?_cons_succ, List.take_succ_cons, List.take_nil, List.drop_succ_cons, List.drop_zero, List.head?_cons, Nat.reduceAdd, Nat.reduceEqDiff, Nat.reduceLT, reduceCtorEq, decide_true, Bool.and_self, Bool.false_eq_true, and_self, ne_eq, not_false_eq_true, List.cons_ne_nil, Nat.zero_add, eq_self]
theorem send_ev (h : x.Small) : (evL T).call n_process_execution_send [.ptr 5 0 0 0, (.agg [(.v (.int .i64 (op.code))), (.v (.int .i64 (op.a))), (.v (.int .i64 (op.b))), (.v (.int .i64 (op.c)))])] [.row 4 [[(.v (.int .i64 (a0))), (.v (.int .i64 (a1))), .sl 2 0 0 am false, (.v (.int .i64 (a2)))]] 0, .row 4 [[(.v (.int .i64 (0))), (.v (.int .i64 (0))), .fsl [] false, (.v (.int .i64 (0)))]] 0, .row 4 ((x.procs).map Pr.r) gp, .row 6 ((x.out).map Evt.r) gc, .row 1 ((x.gone).map keyC) gg, .row 14 [[(.v (.int .i64 (x.r0))), (.v (.int .i64 (x.r1))), .sl 2 gp 0 x.procs.length false, (.v (.int .i64 (x.sum))), (.v (.int .i64 (x.ev.time))), (.fsl ((x.ev.key).map intC) false), (.v (.int .i64 (x.ev.lp))), (.v (.int .i64 (x.ev.kind))), (.v (.int .i64 (x.ev.proc))), (.v (.int .i64 (x.ev.arg))), .sl 3 gc 0 x.out.length false, (.v (.int .i64 (x.n))), .sl 4 gg 0 x.gone.length false, (.v (.bool (x.over)))]] 0, .mp .i64 tableL] = some ((.v (.int .i64 (0))), [.row 4 [[(.v (.int .i64 (a0))), (.v (.int .i64 (a1))), .sl 2 0 0 am false, (.v (.int .i64 (a2)))]] 0, .row 4 [[(.v (.int .i64 (0))), (.v (.int .i64 (0))), .fsl [] false, (.v (.int .i64 (0)))]] 0, .row 4 (((x.create op.c ⟨0, [], op.a, 3, 0, op.b⟩).procs).map Pr.r) gp, .row 6 (((x.create op.c ⟨0, [], op.a, 3, 0, op.b⟩).out).map Evt.r) (createG x op.c gc), .row 1 (((x.create op.c ⟨0, [], op.a, 3, 0, op.b⟩).gone).map keyC) gg, .row 14 [[(.v (.int .i64 ((x.create op.c ⟨0, [], op.a, 3, 0, op.b⟩).r0))), (.v (.int .i64 ((x.create op.c ⟨0, [], op.a, 3, 0, op.b⟩).r1))), .sl 2 gp 0 (x.create op.c ⟨0, [], op.a, 3, 0, op.b⟩).procs.length false, (.v (.int .i64 ((x.create op.c ⟨0, [], op.a, 3, 0, op.b⟩).sum))), (.v (.int .i64 ((x.create op.c ⟨0, [], op.a, 3, 0, op.b⟩).ev.time))), (.fsl (((x.create op.c ⟨0, [], op.a, 3, 0, op.b⟩).ev.key).map intC) false), (.v (.int .i64 ((x.create op.c ⟨0, [], op.a, 3, 0, op.b⟩).ev.lp))), (.v (.int .i64 ((x.create op.c ⟨0, [], op.a, 3, 0, op.b⟩).ev.kind))), (.v (.int .i64 ((x.create op.c ⟨0, [], op.a, 3, 0, op.b⟩).ev.proc))), (.v (.int .i64 ((x.create op.c ⟨0, [], op.a, 3, 0, op.b⟩).ev.arg))), .sl 3 (createG x op.c gc) 0 (x.create op.c ⟨0, [], op.a, 3, 0, op.b⟩).out.length false, (.v (.int .i64 ((x.create op.c ⟨0, [], op.a, 3, 0, op.b⟩).n))), .sl 4 gg 0 (x.create op.c ⟨0, [], op.a, 3, 0, op.b⟩).gone.length false, (.v (.bool ((x.create op.c ⟨0, [], op.a, 3, 0, op.b⟩).over)))]] 0, .mp .i64 tableL]) := by
  have h2 := create_ev a0 a1 a2 am x gp gc gg h op.c 0 op.a 3 0 op.b []
  simp only [List.map_nil] at h2
  rw [evL_code ext_process_execution_send code_process_execution_send]
  simp only [c_process_execution_send, h2, ints_lo, procs_lo, evts_lo, keys_lo, Nat.reduceLT, Nat.reduceLeDiff, Ev.runFunc, Ev.exec, Ev.evOpers, Ev.evOper, Ev.item_op, Ev.item_I, Ev.evOp, Ev.evs, Ev.Opnd.ev, Ev.Env.get, Ev.Env.set, Ev.look, Ev.argVars, Ev.cellsAt, Ev.loadC, Ev.fillP, Ev.AV.cells, Ev.AV.uc, Ev.plains, Ev.AV.plain, Ev.resVals, Ev.resVal, Ev.resOf, Ev.kill, Ev.leave, Ev.storeLo, Ev.SObj.lo, Ev.lo_v, Ev.lo_fsl, Ev.lo_sl, Ev.los_nil, Ev.los_cons, Ev.loss_nil, Ev.loss_cons, ↓Ev.obind, ↓reduceIte, List.length_cons, List.length_nil, List.take_succ_cons, List.take_zero, List.take_nil, List.drop_succ_cons, List.drop_zero, List.drop_nil, List.cons_append, List.nil_append, List.append_nil, List.head?_cons, Nat.reduceAdd, Nat.reduceEqDiff, Nat.reduceLT, Nat.reduceLeDiff, reduceCtorEq, decide_true, Bool.and_self, Bool.false_eq_true, and_self, ne_eq, not_false_eq_true, List.cons_ne_nil, Nat.zero_add, Nat.le_refl, eq_self]
theorem end_ev : (evL T).call n_process_execution_end [.ptr 5 0 0 0, (.agg [(.v (.int .i64 (op.code))), (.v (.int .i64 (op.a))), (.v (.int .i64 (op.b))), (.v (.int .i64 (op.c)))])] [.row 4 [[(.v (.int .i64 (a0))), (.v (.int .i64 (a1))), .sl 2 0 0 am false, (.v (.int .i64 (a2)))]] 0, .row 4 [[(.v (.int .i64 (0))), (.v (.int .i64 (0))), .fsl [] false, (.v (.int .i64 (0)))]] 0, .row 4 ((x.procs).map Pr.r) gp, .row 6 ((x.out).map Evt.r) gc, .row 1 ((x.gone).map keyC) gg, .row 14 [[(.v (.int .i64 (x.r0))), (.v (.int .i64 (x.r1))), .sl 2 gp 0 x.procs.length false, (.v (.int .i64 (x.sum))), (.v (.int .i64 (x.ev.time))), (.fsl ((x.ev.key).map intC) false), (.v (.int .i64 (x.ev.lp))), (.v (.int .i64 (x.ev.kind))), (.v (.int .i64 (x.ev.proc))), (.v (.int .i64 (x.ev.arg))), .sl 3 gc 0 x.out.length false, (.v (.int .i64 (x.n))), .sl 4 gg 0 x.gone.length false, (.v (.bool (x.over)))]] 0, .mp .i64 tableL] = some ((.v (.int .i64 (2))), [.row 4 [[(.v (.int .i64 (a0))), (.v (.int .i64 (a1))), .sl 2 0 0 am false, (.v (.int .i64 (a2)))]] 0, .row 4 [[(.v (.int .i64 (0))), (.v (.int .i64 (0))), .fsl [] false, (.v (.int .i64 (0)))]] 0, .row 4 ((x.procs).map Pr.r) gp, .row 6 ((x.out).map Evt.r) gc, .row 1 ((x.gone).map keyC) gg, .row 14 [[(.v (.int .i64 (x.r0))), (.v (.int .i64 (x.r1))), .sl 2 gp 0 x.procs.length false, (.v (.int .i64 (x.sum))), (.v (.int .i64 (x.ev.time))), (.fsl ((x.ev.key).map intC) false), (.v (.int .i64 (x.ev.lp))), (.v (.int .i64 (x.ev.kind))), (.v (.int .i64 (x.ev.proc))), (.v (.int .i64 (x.ev.arg))), .sl 3 gc 0 x.out.length false, (.v (.int .i64 (x.n))), .sl 4 gg 0 x.gone.length false, (.v (.bool (x.over)))]] 0, .mp .i64 tableL]) := by
  rw [evL_code ext_process_execution_end code_process_execution_end]
  simp only [c_process_execution_end, ints_lo, procs_lo, evts_lo, keys_lo, Nat.reduceLT, Ev.runFunc, Ev.exec, Ev.evOpers, Ev.evOper, Ev.item_op, Ev.evOp, Ev.Opnd.ev, Ev.Env.get, Ev.Env.set, Ev.look, Ev.argVars, Ev.AV.cells, Ev.plains, Ev.AV.plain, Ev.resVals, Ev.resVal, Ev.resOf, Ev.kill, Ev.leave, Ev.storeLo, Ev.SObj.lo, Ev.lo_v, Ev.lo_fsl, Ev.lo_sl, Ev.los_nil, Ev.los_cons, Ev.loss_nil, Ev.loss_cons, ↓Ev.obind, ↓reduceIte, List.length_cons, List.length_nil, List.take_succ_cons, List.take_nil, Nat.reduceAdd, Nat.reduceLT, reduceCtorEq, decide_true, Bool.and_self, and_self, ne_eq, not_false_eq_true, List.cons_ne_nil, Nat.zero_add, eq_self]
def Ex.reg (x : Ex) (k : Int) : Int := if k = 0 then x.r0 else x.r1
def Ex.setReg (x : Ex) (k v : Int) : Ex := if k = 0 then { x with r0 := v } else { x with r1 := v }
theorem add_ev (ha : op.a = 0 ∨ op.a = 1) : (evL T).call n_process_execution_add [.ptr 5 0 0 0, (.agg [(.v (.int .i64 (op.code))), (.v (.int .i64 (op.a))), (.v (.int .i64 (op.b))), (.v (.int .i64 (op.c)))])] [.row 4 [[(.v (.int .i64 (a0))), (.v (.int .i64 (a1))), .sl 2 0 0 am false, (.v (.int .i64 (a2)))]] 0, .row 4 [[(.v (.int .i64 (0))), (.v (.int .i64 (0))), .fsl [] false, (.v (.int .i64 (0)))]] 0, .row 4 ((x.procs).map Pr.r) gp, .row 6 ((x.out).map Evt.r) gc, .row 1 ((x.gone).map keyC) gg, .row 14 [[(.v (.int .i64 (x.r0))), (.v (.int .i64 (x.r1))), .sl 2 gp 0 x.procs.length false, (.v (.int .i64 (x.sum))), (.v (.int .i64 (x.ev.time))), (.fsl ((x.ev.key).map intC) false), (.v (.int .i64 (x.ev.lp))), (.v (.int .i64 (x.ev.kind))), (.v (.int .i64 (x.ev.proc))), (.v (.int .i64 (x.ev.arg))), .sl 3 gc 0 x.out.length false, (.v (.int .i64 (x.n))), .sl 4 gg 0 x.gone.length false, (.v (.bool (x.over)))]] 0, .mp .i64 tableL] = some ((.v (.int .i64 (0))), [.row 4 [[(.v (.int .i64 (a0))), (.v (.int .i64 (a1))), .sl 2 0 0 am false, (.v (.int .i64 (a2)))]] 0, .row 4 [[(.v (.int .i64 (0))), (.v (.int .i64 (0))), .fsl [] false, (.v (.int .i64 (0)))]] 0, .row 4 (((x.setReg op.a (w64 (x.reg op.a + op.b))).procs).map Pr.r) gp, .row 6 (((x.setReg op.a (w64 (x.reg op.a + op.b))).out).map Evt.r) gc, .row 1 (((x.setReg op.a (w64 (x.reg op.a + op.b))).gone).map keyC) gg, .row 14 [[(.v (.int .i64 ((x.setReg op.a (w64 (x.reg op.a + op.b))).r0))), (.v (.int .i64 ((x.setReg op.a (w64 (x.reg op.a + op.b))).r1))), .sl 2 gp 0 (x.setReg op.a (w64 (x.reg op.a + op.b))).procs.length false, (.v (.int .i64 ((x.setReg op.a (w64 (x.reg op.a + op.b))).sum))), (.v (.int .i64 ((x.setReg op.a (w64 (x.reg op.a + op.b))).ev.time))), (.fsl (((x.setReg op.a (w64 (x.reg op.a + op.b))).ev.key).map intC) false), (.v (.int .i64 ((x.setReg op.a (w64 (x.reg op.a + op.b))).ev.lp))), (.v (.int .i64 ((x.setReg op.a (w64 (x.reg op.a + op.b))).ev.kind))), (.v (.int .i64 ((x.setReg op.a (w64 (x.reg op.a + op.b))).ev.proc))), (.v (.int .i64 ((x.setReg op.a (w64 (x.reg op.a + op.b))).ev.arg))), .sl 3 gc 0 (x.setReg op.a (w64 (x.reg op.a + op.b))).out.length false, (.v (.int .i64 ((x.setReg op.a (w64 (x.reg op.a + op.b))).n))), .sl 4 gg 0 (x.setReg op.a (w64 (x.reg op.a + op.b))).gone.length false, (.v (.bool ((x.setReg op.a (w64 (x.reg op.a + op.b))).over)))]] 0, .mp .i64 tableL]) := by
  rw [evL_code ext_process_execution_add code_process_execution_add]
  rcases ha with ha | ha
  · simp only [c_process_execution_add, ha, Ex.setReg, Ex.reg, ints_lo, procs_lo, evts_lo, keys_lo, Nat.reduceLT, Nat.reduceLeDiff, Ev.runFunc, Ev.exec, Ev.evOpers, Ev.evOper, Ev.item_op, Ev.evOp, Ev.Opnd.ev, Ev.Env.get, Ev.Env.set, Ev.look, Ev.argVars, Ev.cellsAt, Ev.loadC, Ev.AV.cells, Ev.AV.uc, Ev.plains, Ev.AV.plain, Ev.bin_add, Ev.resVals, Ev.resVal, Ev.resOf, Ev.kill, Ev.leave, Ev.storeLo, Ev.SObj.lo, Ev.lo_v, Ev.lo_fsl, Ev.lo_sl, Ev.los_nil, Ev.los_cons, Ev.loss_nil, Ev.loss_cons, ↓Ev.obind, ↓reduceIte, List.length_cons, List.length_nil, List.getElem?_cons_zero, List.getElem?_cons_succ, List.take_succ_cons, List.take_zero, List.take_nil, List.drop_succ_cons, List.drop_zero, List.cons_append, List.nil_append, List.set_cons_zero, List.set_cons_succ, List.head?_cons, Nat.reduceAdd, Nat.reduceEqDiff, Nat.reduceMul, Nat.reduceLT, Nat.reduceLeDiff, Int.reduceLE, Int.reduceToNat, reduceCtorEq, decide_true, Bool.and_self, Bool.false_eq_true, and_self, ne_eq, not_false_eq_true, List.cons_ne_nil, Nat.zero_add, Nat.add_zero, eq_self]
  · simp only [c_process_execution_add, ha, Ex.setReg, Ex.reg, ints_lo, procs_lo, evts_lo, keys_lo, Nat.reduceLT, Nat.reduceLeDiff, Ev.runFunc, Ev.exec, Ev.evOpers, Ev.evOper, Ev.item_op, Ev.evOp, Ev.Opnd.ev, Ev.Env.get, Ev.Env.set, Ev.look, Ev.argVars, Ev.cellsAt, Ev.loadC, Ev.AV.cells, Ev.AV.uc, Ev.plains, Ev.AV.plain, Ev.bin_add, Ev.resVals, Ev.resVal, Ev.resOf, Ev.kill, Ev.leave, Ev.storeLo, Ev.SObj.lo, Ev.lo_v, Ev.lo_fsl, Ev.lo_sl, Ev.los_nil, Ev.los_cons, Ev.loss_nil, Ev.loss_cons, ↓Ev.obind, ↓reduceIte, List.length_cons, List.length_nil, List.getElem?_cons_zero, List.getElem?_cons_succ, List.take_succ_cons, List.take_zero, List.take_nil, List.drop_succ_cons, List.drop_zero, List.cons_append, List.nil_append, List.set_cons_zero, List.set_cons_succ, List.head?_cons, Nat.reduceAdd, Nat.reduceEqDiff, Nat.reduceMul, Nat.reduceLT, Nat.reduceLeDiff, Int.reduceLE, Int.reduceToNat, Int.reduceEq, reduceCtorEq, decide_true, Bool.and_self, Bool.false_eq_true, and_self, ne_eq, not_false_eq_true, List.cons_ne_nil, Nat.zero_add, Nat.add_zero, Nat.lt_add_one, eq_self]
section
variable (i : Nat) (q : Pr) (hi : x.ev.proc = i) (hq : x.procs[i]? = some q)
include hi hq
theorem less_ev (ha : op.a = 0 ∨ op.a = 1) : (evL T).call n_process_execution_less [.ptr 5 0 0 0, (.agg [(.v (.int .i64 (op.code))), (.v (.int .i64 (op.a))), (.v (.int .i64 (op.b))), (.v (.int .i64 (op.c)))])] [.row 4 [[(.v (.int .i64 (a0))), (.v (.int .i64 (a1))), .sl 2 0 0 am false, (.v (.int .i64 (a2)))]] 0, .row 4 [[(.v (.int .i64 (0))), (.v (.int .i64 (0))), .fsl [] false, (.v (.int .i64 (0)))]] 0, .row 4 ((x.procs).map Pr.r) gp, .row 6 ((x.out).map Evt.r) gc, .row 1 ((x.gone).map keyC) gg, .row 14 [[(.v (.int .i64 (x.r0))), (.v (.int .i64 (x.r1))), .sl 2 gp 0 x.procs.length false, (.v (.int .i64 (x.sum))), (.v (.int .i64 (x.ev.time))), (.fsl ((x.ev.key).map intC) false), (.v (.int .i64 (x.ev.lp))), (.v (.int .i64 (x.ev.kind))), (.v (.int .i64 (x.ev.proc))), (.v (.int .i64 (x.ev.arg))), .sl 3 gc 0 x.out.length false, (.v (.int .i64 (x.n))), .sl 4 gg 0 x.gone.length false, (.v (.bool (x.over)))]] 0, .mp .i64 tableL] = some ((.v (.int .i64 (0))), [.row 4 [[(.v (.int .i64 (a0))), (.v (.int .i64 (a1))), .sl 2 0 0 am false, (.v (.int .i64 (a2)))]] 0, .row 4 [[(.v (.int .i64 (0))), (.v (.int .i64 (0))), .fsl [] false, (.v (.int .i64 (0)))]] 0, .row 4 (((if x.reg op.a < op.b then x.setP i { q with pc := op.c } else x).procs).map Pr.r) gp, .row 6 (((if x.reg op.a < op.b then x.setP i { q with pc := op.c } else x).out).map Evt.r) gc, .row 1 (((if x.reg op.a < op.b then x.setP i { q with pc := op.c } else x).gone).map keyC) gg, .row 14 [[(.v (.int .i64 ((if x.reg op.a < op.b then x.setP i { q with pc := op.c } else x).r0))), (.v (.int .i64 ((if x.reg op.a < op.b then x.setP i { q with pc := op.c } else x).r1))), .sl 2 gp 0 (if x.reg op.a < op.b then x.setP i { q with pc := op.c } else x).procs.length false, (.v (.int .i64 ((if x.reg op.a < op.b then x.setP i { q with pc := op.c } else x).sum))), (.v (.int .i64 ((if x.reg op.a < op.b then x.setP i { q with pc := op.c } else x).ev.time))), (.fsl (((if x.reg op.a < op.b then x.setP i { q with pc := op.c } else x).ev.key).map intC) false), (.v (.int .i64 ((if x.reg op.a < op.b then x.setP i { q with pc := op.c } else x).ev.lp))), (.v (.int .i64 ((if x.reg op.a < op.b then x.setP i { q with pc := op.c } else x).ev.kind))), (.v (.int .i64 ((if x.reg op.a < op.b then x.setP i { q with pc := op.c } else x).ev.proc))), (.v (.int .i64 ((if x.reg op.a < op.b then x.setP i { q with pc := op.c } else x).ev.arg))), .sl 3 gc 0 (if x.reg op.a < op.b then x.setP i { q with pc := op.c } else x).out.length false, (.v (.int .i64 ((if x.reg op.a < op.b then x.setP i { q with pc := op.c } else x).n))), .sl 4 gg 0 (if x.reg op.a < op.b then x.setP i { q with pc := op.c } else x).gone.length false, (.v (.bool ((if x.reg op.a < op.b then x.setP i { q with pc := op.c } else x).over)))]] 0, .mp .i64 tableL]) := by
  have hp := (List.getElem?_eq_some_iff.1 hq).1
  have h1 := self7_ev a0 a1 a2 am x gp gc gg i hi hp
  have hset : (x.procs.map Pr.r).set i [(.v (.int .i64 (q.prog))), (.v (.int .i64 (op.c))), (.v (.bool (q.alive))), (.fsl ((q.timer).map intC) false)] = (x.procs.set i { q with pc := op.c }).map Pr.r := by rw [List.map_set]; rfl
  have hl : (x.procs.set i { q with pc := op.c }).length = x.procs.length := by simp
  rw [evL_code ext_process_execution_less code_process_execution_less]
  unfold Ex.reg
  rcases ha with ha | ha
  · by_cases hlt : x.r0 < op.b
    · simp only [c_process_execution_less, ha, hlt, Ex.setP, h1, hl, List.getElem?_map, Option.map_some, hq, Pr.r, ints_lo, procs_lo, evts_lo, keys_lo, Nat.reduceLT, Nat.reduceLeDiff, Ev.runFunc, Ev.exec, Ev.evOpers, Ev.evOper, Ev.item_op, Ev.item_I, Ev.evOp, Ev.evs, Ev.Opnd.ev, Ev.Env.get, Ev.Env.set, Ev.look, Ev.argVars, Ev.cellsAt, Ev.loadC, Ev.AV.cells, Ev.AV.uc, Ev.plains, Ev.AV.plain, Ev.bin_lss, Ev.resVals, Ev.resVal, Ev.resOf, Ev.kill, Ev.leave, Ev.storeLo, Ev.SObj.lo, Ev.lo_v, Ev.lo_fsl, Ev.lo_sl, Ev.los_nil, Ev.los_cons, Ev.loss_nil, Ev.loss_cons, ↓Ev.obind, ↓reduceIte, List.length_cons, List.length_nil, List.getElem?_cons_zero, List.getElem?_cons_succ, List.take_succ_cons, List.take_zero, List.take_nil, List.drop_succ_cons, List.drop_zero, List.cons_append, List.nil_append, List.set_cons_zero, List.set_cons_succ, List.head?_cons, Nat.reduceAdd, Nat.reduceEqDiff, Nat.reduceMul, Nat.reduceLT, Nat.reduceLeDiff, Int.reduceLE, Int.reduceToNat, reduceCtorEq, decide_true, Bool.and_self, Bool.false_eq_true, and_self, ne_eq, not_false_eq_true, List.cons_ne_nil, Nat.zero_add, Nat.add_zero, eq_self, hset]
    · simp only [c_process_execution_less, ha, hlt, ints_lo, procs_lo, evts_lo, keys_lo, Nat.reduceLT, Ev.runFunc, Ev.exec, Ev.evOpers, Ev.evOper, Ev.item_op, Ev.evOp, Ev.Opnd.ev, Ev.Env.get, Ev.Env.set, Ev.look, Ev.argVars, Ev.cellsAt, Ev.loadC, Ev.AV.cells, Ev.plains, Ev.AV.plain, Ev.bin_lss, Ev.resVals, Ev.resVal, Ev.resOf, Ev.kill, Ev.leave, Ev.storeLo, Ev.SObj.lo, Ev.lo_v, Ev.lo_fsl, Ev.lo_sl, Ev.los_nil, Ev.los_cons, Ev.loss_nil, Ev.loss_cons, ↓Ev.obind, ↓reduceIte, List.length_cons, List.length_nil, List.getElem?_cons_zero, List.getElem?_cons_succ, List.take_succ_cons, List.take_nil, List.drop_succ_cons, List.drop_zero, List.head?_cons, Nat.reduceAdd, Nat.reduceEqDiff, Nat.reduceMul, Nat.reduceLT, Int.reduceLE, Int.reduceToNat, reduceCtorEq, decide_true, decide_false, Bool.and_self, Bool.false_eq_true, and_self, ne_eq, not_false_eq_true, List.cons_ne_nil, Nat.zero_add, Nat.add_zero, eq_self]
  · have h01 : ¬ (1 : Int) = 0 := by decide
    by_cases hlt : x.r1 < op.b
    · simp only [c_process_execution_less, ha, h01, hlt, Ex.setP, h1, hl, List.getElem?_map, Option.map_some, hq, Pr.r, ints_lo, procs_lo, evts_lo, keys_lo, Nat.reduceLT, Nat.reduceLeDiff, Ev.runFunc, Ev.exec, Ev.evOpers, Ev.evOper, Ev.item_op, Ev.item_I, Ev.evOp, Ev.evs, Ev.Opnd.ev, Ev.Env.get, Ev.Env.set, Ev.look, Ev.argVars, Ev.cellsAt, Ev.loadC, Ev.AV.cells, Ev.AV.uc, Ev.plains, Ev.AV.plain, Ev.bin_lss, Ev.resVals, Ev.resVal, Ev.resOf, Ev.kill, Ev.leave, Ev.storeLo, Ev.SObj.lo, Ev.lo_v, Ev.lo_fsl, Ev.lo_sl, Ev.los_nil, Ev.los_cons, Ev.loss_nil, Ev.loss_cons, ↓Ev.obind, ↓reduceIte, List.length_cons, List.length_nil, List.getElem?_cons_zero, List.getElem?_cons_succ, List.take_succ_cons, List.take_zero, List.take_nil, List.drop_succ_cons, List.drop_zero, List.cons_append, List.nil_append, List.set_cons_zero, List.set_cons_succ, List.head?_cons, Nat.reduceAdd, Nat.reduceEqDiff, Nat.reduceMul, Nat.reduceLT, Nat.reduceLeDiff, Int.reduceLE, Int.reduceToNat, reduceCtorEq, decide_true, Bool.and_self, Bool.false_eq_true, and_self, ne_eq, not_false_eq_true, List.cons_ne_nil, Nat.zero_add, Nat.add_zero, Nat.lt_add_one, eq_self, hset]
    · simp only [c_process_execution_less, ha, h01, hlt, ints_lo, procs_lo, evts_lo, keys_lo, Nat.reduceLT, Ev.runFunc, Ev.exec, Ev.evOpers, Ev.evOper, Ev.item_op, Ev.evOp, Ev.Opnd.ev, Ev.Env.get, Ev.Env.set, Ev.look, Ev.argVars, Ev.cellsAt, Ev.loadC, Ev.AV.cells, Ev.plains, Ev.AV.plain, Ev.bin_lss, Ev.resVals, Ev.resVal, Ev.resOf, Ev.kill, Ev.leave, Ev.storeLo, Ev.SObj.lo, Ev.lo_v, Ev.lo_fsl, Ev.lo_sl, Ev.los_nil, Ev.los_cons, Ev.loss_nil, Ev.loss_cons, ↓Ev.obind, ↓reduceIte, List.length_cons, List.length_nil, List.getElem?_cons_zero, List.getElem?_cons_succ, List.take_succ_cons, List.take_nil, List.drop_succ_cons, List.drop_zero, List.head?_cons, Nat.reduceAdd, Nat.reduceEqDiff, Nat.reduceMul, Nat.reduceLT, Int.reduceLE, Int.reduceToNat, reduceCtorEq, decide_true, decide_false, Bool.and_self, Bool.false_eq_true, and_self, ne_eq, not_false_eq_true, List.cons_ne_nil, Nat.zero_add, Nat.add_zero, Nat.lt_add_one, eq_self]
theorem stop_ev (h : x.Small) : (evL T).call n_process_execution_stop [.ptr 5 0 0 0, (.agg [(.v (.int .i64 (op.code))), (.v (.int .i64 (op.a))), (.v (.int .i64 (op.b))), (.v (.int .i64 (op.c)))])] [.row 4 [[(.v (.int .i64 (a0))), (.v (.int .i64 (a1))), .sl 2 0 0 am false, (.v (.int .i64 (a2)))]] 0, .row 4 [[(.v (.int .i64 (0))), (.v (.int .i64 (0))), .fsl [] false, (.v (.int .i64 (0)))]] 0, .row 4 ((x.procs).map Pr.r) gp, .row 6 ((x.out).map Evt.r) gc, .row 1 ((x.gone).map keyC) gg, .row 14 [[(.v (.int .i64 (x.r0))), (.v (.int .i64 (x.r1))), .sl 2 gp 0 x.procs.length false, (.v (.int .i64 (x.sum))), (.v (.int .i64 (x.ev.time))), (.fsl ((x.ev.key).map intC) false), (.v (.int .i64 (x.ev.lp))), (.v (.int .i64 (x.ev.kind))), (.v (.int .i64 (x.ev.proc))), (.v (.int .i64 (x.ev.arg))), .sl 3 gc 0 x.out.length false, (.v (.int .i64 (x.n))), .sl 4 gg 0 x.gone.length false, (.v (.bool (x.over)))]] 0, .mp .i64 tableL] = some ((.v (.int .i64 (0))), [.row 4 [[(.v (.int .i64 (a0))), (.v (.int .i64 (a1))), .sl 2 0 0 am false, (.v (.int .i64 (a2)))]] 0, .row 4 [[(.v (.int .i64 (0))), (.v (.int .i64 (0))), .fsl [] false, (.v (.int .i64 (0)))]] 0, .row 4 (((x.stopE i q).procs).map Pr.r) gp, .row 6 (((x.stopE i q).out).map Evt.r) gc, .row 1 (((x.stopE i q).gone).map keyC) (if 0 < q.timer.length then gg + 1 else gg), .row 14 [[(.v (.int .i64 ((x.stopE i q).r0))), (.v (.int .i64 ((x.stopE i q).r1))), .sl 2 gp 0 (x.stopE i q).procs.length false, (.v (.int .i64 ((x.stopE i q).sum))), (.v (.int .i64 ((x.stopE i q).ev.time))), (.fsl (((x.stopE i q).ev.key).map intC) false), (.v (.int .i64 ((x.stopE i q).ev.lp))), (.v (.int .i64 ((x.stopE i q).ev.kind))), (.v (.int .i64 ((x.stopE i q).ev.proc))), (.v (.int .i64 ((x.stopE i q).ev.arg))), .sl 3 gc 0 (x.stopE i q).out.length false, (.v (.int .i64 ((x.stopE i q).n))), .sl 4 (if 0 < q.timer.length then gg + 1 else gg) 0 (x.stopE i q).gone.length false, (.v (.bool ((x.stopE i q).over)))]] 0, .mp .i64 tableL]) := by
  have hp := (List.getElem?_eq_some_iff.1 hq).1
  have h1 := self7_ev a0 a1 a2 am x gp gc gg i hi hp
  have hset : (x.procs.map Pr.r).set i [(.v (.int .i64 (q.prog))), (.v (.int .i64 (q.pc))), (.v (.bool (q.alive))), .fsl [] false] = (x.procs.set i { q with timer := [] }).map Pr.r := by rw [List.map_set]; rfl
  have hl : (x.procs.set i { q with timer := [] }).length = x.procs.length := by simp
  have hs : (x.gone.length + 1) * 24 ≤ 140737488355328 := by have := h.gone; omega
  have htl : List.take x.gone.length (x.gone.map keyC) = x.gone.map keyC := List.take_of_length_le (by simp)
  have hr : ∀ e : List Int, (x.gone ++ [e]).map keyC = x.gone.map keyC ++ [keyC e] := fun e => by rw [List.map_append]; rfl
  rw [evL_code ext_process_execution_stop code_process_execution_stop]
  unfold Ex.stopE
  by_cases ht : 0 < q.timer.length
  · have ht' : (q.timer.length : Int) > 0 := by omega
    simp only [c_process_execution_stop, ht, ht', h1, hl, hs, htl, hr, loss_app, keyC, List.getElem?_map, Option.map_some, hq, Pr.r, ints_lo, procs_lo, evts_lo, keys_lo, Nat.reduceLT, Nat.reduceLeDiff, Ev.runFunc, Ev.exec, Ev.evOpers, Ev.evOper, Ev.item_op, Ev.item_I, Ev.evOp, Ev.appE, Ev.evs, Ev.Opnd.ev, Ev.Env.get, Ev.Env.set, Ev.look, Ev.argVars, Ev.cellsAt, Ev.content, Ev.loadC, Ev.fillR, Ev.AV.cells, Ev.AV.uc, Ev.plains, Ev.AV.plain, Ev.bin_gtr, Ev.resVals, Ev.resVal, Ev.resOf, Ev.kill, Ev.leave, Ev.storeLo, Ev.SObj.lo, Ev.lo_v, Ev.lo_fsl, Ev.lo_sl, Ev.los_nil, Ev.los_cons, Ev.loss_nil, Ev.loss_cons, Ev.okRows_nil, Ev.okRows_cons, List.replicate_one, List.length_map, ↓Ev.obind, ↓reduceIte, List.length_cons, List.length_nil, List.length_append, List.getElem?_cons_zero, List.getElem?_cons_succ, List.take_succ_cons, List.take_zero, List.take_nil, List.drop_succ_cons, List.drop_zero, List.drop_nil, List.cons_append, List.nil_append, List.append_nil, List.set_cons_zero, List.set_cons_succ, List.head?_cons, Nat.reduceAdd, Nat.reduceEqDiff, Nat.reduceMul, Nat.reduceLT, Nat.reduceLeDiff, Nat.reducePow, reduceCtorEq, decide_true, Bool.and_self, Bool.false_eq_true, and_self, ne_eq, not_false_eq_true, List.cons_ne_nil, Nat.zero_add, Nat.lt_add_one, Nat.le_refl, eq_self, hset]
  · have ht' : ¬ (q.timer.length : Int) > 0 := by omega
    simp only [c_process_execution_stop, ht, ht', h1, List.getElem?_map, Option.map_some, hq, Pr.r, ints_lo, procs_lo, evts_lo, keys_lo, Nat.reduceLT, Ev.runFunc, Ev.exec, Ev.evOpers, Ev.evOper, Ev.item_op, Ev.item_I, Ev.evOp, Ev.evs, Ev.Opnd.ev, Ev.Env.get, Ev.Env.set, Ev.look, Ev.argVars, Ev.cellsAt, Ev.loadC, Ev.AV.cells, Ev.plains, Ev.AV.plain, Ev.bin_gtr, Ev.resVals, Ev.resVal, Ev.resOf, Ev.kill, Ev.leave, Ev.storeLo, Ev.SObj.lo, Ev.lo_v, Ev.lo_fsl, Ev.lo_sl, Ev.los_nil, Ev.los_cons, Ev.loss_nil, Ev.loss_cons, List.length_map, ↓Ev.obind, ↓reduceIte, List.length_cons, List.length_nil, List.getElem?_cons_zero, List.getElem?_cons_succ, List.take_succ_cons, List.take_nil, List.drop_succ_cons, List.drop_zero, List.head?_cons, Nat.reduceAdd, Nat.reduceLT, reduceCtorEq, decide_true, decide_false, Bool.and_self, Bool.false_eq_true, and_self, ne_eq, not_false_eq_true, List.cons_ne_nil, Nat.zero_add, eq_self]
def Ex.spawnE (x : Ex) (op : OpI) : Ex := if x.procs.length < 8 then ({ x with procs := x.procs ++ [⟨op.a, 0, true, []⟩] } : Ex).create op.b (x.ownE 1 x.procs.length 0) else x
omit hi hq in
theorem spawn_ev (h : x.Small) : ∃ gp' gc', (evL T).call n_process_execution_spawn [.ptr 5 0 0 0, (.agg [(.v (.int .i64 (op.code))), (.v (.int .i64 (op.a))), (.v (.int .i64 (op.b))), (.v (.int .i64 (op.c)))])] [.row 4 [[(.v (.int .i64 (a0))), (.v (.int .i64 (a1))), .sl 2 0 0 am false, (.v (.int .i64 (a2)))]] 0, .row 4 [[(.v (.int .i64 (0))), (.v (.int .i64 (0))), .fsl [] false, (.v (.int .i64 (0)))]] 0, .row 4 ((x.procs).map Pr.r) gp, .row 6 ((x.out).map Evt.r) gc, .row 1 ((x.gone).map keyC) gg, .row 14 [[(.v (.int .i64 (x.r0))), (.v (.int .i64 (x.r1))), .sl 2 gp 0 x.procs.length false, (.v (.int .i64 (x.sum))), (.v (.int .i64 (x.ev.time))), (.fsl ((x.ev.key).map intC) false), (.v (.int .i64 (x.ev.lp))), (.v (.int .i64 (x.ev.kind))), (.v (.int .i64 (x.ev.proc))), (.v (.int .i64 (x.ev.arg))), .sl 3 gc 0 x.out.length false, (.v (.int .i64 (x.n))), .sl 4 gg 0 x.gone.length false, (.v (.bool (x.over)))]] 0, .mp .i64 tableL] = some ((.v (.int .i64 (0))), [.row 4 [[(.v (.int .i64 (a0))), (.v (.int .i64 (a1))), .sl 2 0 0 am false, (.v (.int .i64 (a2)))]] 0, .row 4 [[(.v (.int .i64 (0))), (.v (.int .i64 (0))), .fsl [] false, (.v (.int .i64 (0)))]] 0, .row 4 (((x.spawnE op).procs).map Pr.r) gp', .row 6 (((x.spawnE op).out).map Evt.r) gc', .row 1 (((x.spawnE op).gone).map keyC) gg, .row 14 [[(.v (.int .i64 ((x.spawnE op).r0))), (.v (.int .i64 ((x.spawnE op).r1))), .sl 2 gp' 0 (x.spawnE op).procs.length false, (.v (.int .i64 ((x.spawnE op).sum))), (.v (.int .i64 ((x.spawnE op).ev.time))), (.fsl (((x.spawnE op).ev.key).map intC) false), (.v (.int .i64 ((x.spawnE op).ev.lp))), (.v (.int .i64 ((x.spawnE op).ev.kind))), (.v (.int .i64 ((x.spawnE op).ev.proc))), (.v (.int .i64 ((x.spawnE op).ev.arg))), .sl 3 gc' 0 (x.spawnE op).out.length false, (.v (.int .i64 ((x.spawnE op).n))), .sl 4 gg 0 (x.spawnE op).gone.length false, (.v (.bool ((x.spawnE op).over)))]] 0, .mp .i64 tableL]) := by
  rw [evL_code ext_process_execution_spawn code_process_execution_spawn]
  unfold Ex.spawnE
  by_cases h8 : x.procs.length < 8
  · have h8' : (x.procs.length : Int) < 8 := by omega
    have hs : (x.procs.length + 1) * 48 ≤ 140737488355328 := by omega
    have htl : List.take x.procs.length (x.procs.map Pr.r) = x.procs.map Pr.r := List.take_of_length_le (by simp)
    have hr : ∀ e : Pr, (x.procs ++ [e]).map Pr.r = x.procs.map Pr.r ++ [e.r] := fun e => by rw [List.map_append]; rfl
    have hl : ∀ e : Pr, (x.procs ++ [e]).length = x.procs.length + 1 := fun e => by simp
    have hsm : ({ x with procs := x.procs ++ [⟨op.a, 0, true, []⟩] } : Ex).Small := ⟨by simp; omega, h.out, h.gone, h.key⟩
    have h1 := own_ev a0 a1 a2 am { x with procs := x.procs ++ [⟨op.a, 0, true, []⟩] } (gp + 1) gc gg 1 x.procs.length 0
    have h2 := create_ev a0 a1 a2 am { x with procs := x.procs ++ [⟨op.a, 0, true, []⟩] } (gp + 1) gc gg hsm op.b 0 x.ev.lp 1 x.procs.length 0 []
    refine ⟨gp + 1, createG { x with procs := x.procs ++ [⟨op.a, 0, true, []⟩] } op.b gc, ?_⟩
    simp only [hr, hl, Pr.r, List.map_nil] at h1 h2
    simp only [c_process_execution_spawn, h8, h8', h1, h2, hs, htl, Ex.ownE, ints_lo, procs_lo, evts_lo, keys_lo, Nat.reduceLT, Nat.reduceLeDiff, Ev.runFunc, Ev.exec, Ev.evOpers, Ev.evOper, Ev.item_op, Ev.item_I, Ev.evOp, Ev.appE, Ev.evs, Ev.Opnd.ev, Ev.Env.get, Ev.Env.set, Ev.look, Ev.argVars, Ev.cellsAt, Ev.content, Ev.loadC, Ev.fillP, Ev.fillR, Ev.AV.cells, Ev.AV.uc, Ev.plains, Ev.AV.plain, Ev.bin_lss, Ev.resVals, Ev.resVal, Ev.resOf, Ev.kill, Ev.leave, Ev.storeLo, Ev.SObj.lo, Ev.lo_v, Ev.lo_fsl, Ev.lo_sl, Ev.los_nil, Ev.los_cons, Ev.loss_nil, Ev.loss_cons, Ev.okRows_nil, Ev.okRows_cons, List.replicate_one, List.length_map, ↓Ev.obind, ↓reduceIte, List.length_cons, List.length_nil, List.getElem?_cons_zero, List.getElem?_cons_succ, List.take_succ_cons, List.take_zero, List.take_nil, List.drop_succ_cons, List.drop_zero, List.cons_append, List.nil_append, List.set_cons_zero, List.set_cons_succ, List.head?_cons, Nat.reduceAdd, Nat.reduceEqDiff, Nat.reduceMul, Nat.reduceLT, Nat.reduceLeDiff, Nat.reducePow, reduceCtorEq, decide_true, Bool.and_self, Bool.false_eq_true, and_self, ne_eq, not_false_eq_true, List.cons_ne_nil, Nat.zero_add, Nat.add_zero, Nat.lt_add_one, Nat.le_refl, eq_self]
  · have h8' : ¬ (x.procs.length : Int) < 8 := by omega
    refine ⟨gp, gc, ?_⟩
    simp only [c_process_execution_spawn, h8, h8', ints_lo, procs_lo, evts_lo, keys_lo, Nat.reduceLT, Ev.runFunc, Ev.exec, Ev.evOpers, Ev.evOper, Ev.item_op, Ev.evOp, Ev.Opnd.ev, Ev.Env.get, Ev.Env.set, Ev.look, Ev.argVars, Ev.cellsAt, Ev.loadC, Ev.AV.cells, Ev.plains, Ev.AV.plain, Ev.bin_lss, Ev.resVals, Ev.resVal, Ev.resOf, Ev.kill, Ev.leave, Ev.storeLo, Ev.SObj.lo, Ev.lo_v, Ev.lo_fsl, Ev.lo_sl, Ev.los_nil, Ev.los_cons, Ev.loss_nil, Ev.loss_cons, ↓Ev.obind, ↓reduceIte, List.length_cons, List.length_nil, List.getElem?_cons_zero, List.getElem?_cons_succ, List.take_succ_cons, List.take_nil, List.drop_succ_cons, List.drop_zero, List.head?_cons, Nat.reduceAdd, Nat.reduceLT, reduceCtorEq, decide_true, decide_false, Bool.and_self, Bool.false_eq_true, and_self, ne_eq, not_false_eq_true, List.cons_ne_nil, Nat.zero_add, Nat.add_zero, eq_self]
def Ex.timerE (x : Ex) (i : Nat) (q : Pr) (op : OpI) : Ex := ((x.stopE i q).create op.a (x.ownE 2 x.ev.proc op.b)).setP i { q with timer := (x.stopE i q).kid }
theorem timer_ev (h : x.Small) (hg : x.gone.length < 1000) : ∃ gc' gg', (evL T).call n_process_execution_timer [.ptr 5 0 0 0, (.agg [(.v (.int .i64 (op.code))), (.v (.int .i64 (op.a))), (.v (.int .i64 (op.b))), (.v (.int .i64 (op.c)))])] [.row 4 [[(.v (.int .i64 (a0))), (.v (.int .i64 (a1))), .sl 2 0 0 am false, (.v (.int .i64 (a2)))]] 0, .row 4 [[(.v (.int .i64 (0))), (.v (.int .i64 (0))), .fsl [] false, (.v (.int .i64 (0)))]] 0, .row 4 ((x.procs).map Pr.r) gp, .row 6 ((x.out).map Evt.r) gc, .row 1 ((x.gone).map keyC) gg, .row 14 [[(.v (.int .i64 (x.r0))), (.v (.int .i64 (x.r1))), .sl 2 gp 0 x.procs.length false, (.v (.int .i64 (x.sum))), (.v (.int .i64 (x.ev.time))), (.fsl ((x.ev.key).map intC) false), (.v (.int .i64 (x.ev.lp))), (.v (.int .i64 (x.ev.kind))), (.v (.int .i64 (x.ev.proc))), (.v (.int .i64 (x.ev.arg))), .sl 3 gc 0 x.out.length false, (.v (.int .i64 (x.n))), .sl 4 gg 0 x.gone.length false, (.v (.bool (x.over)))]] 0, .mp .i64 tableL] = some ((.v (.int .i64 (0))), [.row 4 [[(.v (.int .i64 (a0))), (.v (.int .i64 (a1))), .sl 2 0 0 am false, (.v (.int .i64 (a2)))]] 0, .row 4 [[(.v (.int .i64 (0))), (.v (.int .i64 (0))), .fsl [] false, (.v (.int .i64 (0)))]] 0, .row 4 (((x.timerE i q op).procs).map Pr.r) gp, .row 6 (((x.timerE i q op).out).map Evt.r) gc', .row 1 (((x.timerE i q op).gone).map keyC) gg', .row 14 [[(.v (.int .i64 ((x.timerE i q op).r0))), (.v (.int .i64 ((x.timerE i q op).r1))), .sl 2 gp 0 (x.timerE i q op).procs.length false, (.v (.int .i64 ((x.timerE i q op).sum))), (.v (.int .i64 ((x.timerE i q op).ev.time))), (.fsl (((x.timerE i q op).ev.key).map intC) false), (.v (.int .i64 ((x.timerE i q op).ev.lp))), (.v (.int .i64 ((x.timerE i q op).ev.kind))), (.v (.int .i64 ((x.timerE i q op).ev.proc))), (.v (.int .i64 ((x.timerE i q op).ev.arg))), .sl 3 gc' 0 (x.timerE i q op).out.length false, (.v (.int .i64 ((x.timerE i q op).n))), .sl 4 gg' 0 (x.timerE i q op).gone.length false, (.v (.bool ((x.timerE i q op).over)))]] 0, .mp .i64 tableL]) := by
  have h0 := stop_ev a0 a1 a2 am x gp gc gg op i q hi hq h
  have hev : (x.stopE i q).ev = x.ev := by unfold Ex.stopE; split <;> rfl
  have hpl : (x.stopE i q).procs.length = x.procs.length := by unfold Ex.stopE; split <;> simp
  have hp := (List.getElem?_eq_some_iff.1 hq).1
  have hsm : (x.stopE i q).Small := ⟨by rw [hpl]; exact h.procs, by unfold Ex.stopE; split <;> exact h.out, by
    unfold Ex.stopE; split
    · simp only [List.length_append, List.length_cons, List.length_nil]; omega
    · exact h.gone, by rw [hev]; exact h.key⟩
  generalize (if 0 < q.timer.length then gg + 1 else gg) = gg' at h0
  have hset2 : ∀ k : List Int, (x.stopE i q).procs.set i { q with timer := k } = x.procs.set i { q with timer := k } := fun k => by
    unfold Ex.stopE; split <;> simp
  have hq2 : ∃ q2, (x.stopE i q).procs[i]? = some q2 ∧ q2.prog = q.prog ∧ q2.pc = q.pc ∧ q2.alive = q.alive := by
    by_cases ht : 0 < q.timer.length
    · simp only [Ex.stopE, ht, if_true]
      exact ⟨{ q with timer := [] }, by rw [List.getElem?_set_self hp], rfl, rfl, rfl⟩
    · simp only [Ex.stopE, ht, if_false]
      exact ⟨q, hq, rfl, rfl, rfl⟩
  unfold Ex.timerE
  generalize x.stopE i q = y at h0 hev hpl hsm hset2 hq2
  obtain ⟨q2, hq2, e1, e2, e3⟩ := hq2
  have hi2 : y.ev.proc = i := by rw [hev]; exact hi
  have h1 := self7_ev a0 a1 a2 am y gp gc gg' i hi2 (by omega)
  have h2 := own_ev a0 a1 a2 am y gp gc gg' 2 y.ev.proc op.b
  have h3 := create_ev a0 a1 a2 am y gp gc gg' hsm op.a 0 y.ev.lp 2 y.ev.proc op.b []
  refine ⟨createG y op.a gc, gg', ?_⟩
  have hcp : (y.create op.a ⟨0, [], y.ev.lp, 2, y.ev.proc, op.b⟩).procs = y.procs := rfl
  simp only [Ex.ownE, Ex.setP, ← hev] at h0 ⊢
  generalize createG y op.a gc = gc' at h3
  generalize y.create op.a ⟨0, [], y.ev.lp, 2, y.ev.proc, op.b⟩ = z at h3 hcp
  have hset : (y.procs.map Pr.r).set i [(.v (.int .i64 (q2.prog))), (.v (.int .i64 (q2.pc))), (.v (.bool (q2.alive))), (.fsl ((y.kid).map intC) false)] = (y.procs.set i { q with timer := y.kid }).map Pr.r := by rw [List.map_set, e1, e2, e3]; rfl
  have hl : (y.procs.set i { q with timer := y.kid }).length = y.procs.length := by simp
  rw [evL_code ext_process_execution_timer code_process_execution_timer]
  simp only [List.map_nil, hcp] at h3
  simp only [c_process_execution_timer, h0, h1, h2, h3, hcp, hl, List.getElem?_map, Option.map_some, hq2, Pr.r, eq_procs, eq_evts, eq_keys, eq_ints, eq_table, ints_lo, procs_lo, evts_lo, keys_lo, Nat.reduceLT, Ev.runFunc, Ev.exec, Ev.evOpers, Ev.evOper, Ev.item_op, Ev.item_I, Ev.item_R, Ev.storeEq, Ev.SObj.eqB, Ev.eqBss_nil, Ev.eqBss_cons, Ev.eqBs_nil, Ev.eqBs_cons, Ev.eqB_int, Ev.eqB_bool, Ev.eqB_fsl, Ev.eqB_sl, Ev.evOp, Ev.evs, Ev.Opnd.ev, Ev.Env.get, Ev.Env.set, Ev.look, Ev.argVars, Ev.cellsAt, Ev.loadC, Ev.AV.cells, Ev.AV.uc, Ev.plains, Ev.AV.plain, Ev.resVals, Ev.resVal, Ev.resOf, Ev.kill, Ev.leave, Ev.storeLo, Ev.SObj.lo, Ev.lo_v, Ev.lo_fsl, Ev.lo_sl, Ev.los_nil, Ev.los_cons, Ev.loss_nil, Ev.loss_cons, ↓Ev.obind, ↓reduceIte, List.length_cons, List.length_nil, List.getElem?_cons_zero, List.getElem?_cons_succ, List.take_succ_cons, List.take_zero, List.take_nil, List.drop_succ_cons, List.drop_zero, List.drop_nil, List.cons_append, List.nil_append, List.append_nil, List.set_cons_zero, List.set_cons_succ, List.head?_cons, Nat.reduceAdd, Nat.reduceEqDiff, Nat.reduceLT, reduceCtorEq, decide_true, Bool.and_self, Bool.false_eq_true, and_self, ne_eq, not_false_eq_true, List.cons_ne_nil, Nat.zero_add, Nat.le_refl, eq_self, beq_self_eq_true, hset]
end
end
end Go.Proofs.Ythkjkdbjgpeigaa.K
