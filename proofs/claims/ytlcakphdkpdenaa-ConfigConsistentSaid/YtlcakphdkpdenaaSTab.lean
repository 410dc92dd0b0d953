/- Part of the proofs about this seat's program (module STab). -/
import Derived.Test.YtlcakphdkpdenaaSK
import Derived.Test.YtlcakphdkpdenaaProg
import Derived.KernelRfl
set_option linter.unusedSectionVars false
set_option linter.unusedSimpArgs false
set_option linter.unusedVariables false
/-
  THE TABLE OF THE COMPILED FUNCTIONS, AND THAT THEY ARE THE PROGRAM'S (printed by a program of mine).
-/
namespace Go.Proofs.Ytlcakphdkpdenaa.K
open Go.Ev
set_option maxRecDepth 100000
theorem ok_law19_ConfigMatchesReference : comp Try.prog { frz := [1] } n_law19_ConfigMatchesReference = some c_law19_ConfigMatchesReference := by kernel_rfl
theorem ok_law19_ConfigConsistent : comp Try.prog { frz := [1], loops := [([1, 3, 4, 5, 6, 7], true), ([1, 3, 4, 5, 8], true), ([1, 3, 4, 5, 8, 9, 11], true)] } n_law19_ConfigConsistent = some c_law19_ConfigConsistent := by kernel_rfl
theorem ok_law19_ConfigMonotone : comp Try.prog { frz := [3], appN := [50], appZ := [54] } n_law19_ConfigMonotone = some c_law19_ConfigMonotone := by kernel_rfl
theorem ok_law19_ConfigErrors : comp Try.prog { frz := [3], appN := [44, 96], frzv := [105, 108], own := [12], appZ := [46], loops := [([3, 7, 8, 9, 10, 11, 12, 13], true)] } n_law19_ConfigErrors = some c_law19_ConfigErrors := by kernel_rfl
theorem ok_law19_head : comp Try.prog {  } n_law19_head = some c_law19_head := by kernel_rfl
theorem ok_law19_Great : comp Try.prog { frz := [1], loops := [([1, 3], true), ([1, 4], true)] } n_law19_Great = some c_law19_Great := by kernel_rfl
theorem ok_ref19_Check : comp Try.prog { frz := [1], loops := [([1, 3], true), ([1, 5], true), ([1, 5, 6], true)] } n_ref19_Check = some c_ref19_Check := by kernel_rfl
theorem ok_config_Check : comp Try.prog { frz := [1] } n_config_Check = some c_config_Check := by kernel_rfl
theorem ok_config_Lookahead : comp Try.prog { loops := [([3, 13, 14, 15], true), ([3, 13, 14, 15, 19, 20, 21], true)] } n_config_Lookahead = some c_config_Lookahead := by kernel_rfl
theorem ok_ref19_Lookahead : comp Try.prog { loops := [([1, 3, 4], true), ([1, 3, 4, 5], true)] } n_ref19_Lookahead = some c_ref19_Lookahead := by kernel_rfl
theorem ok_config_Initial : comp Try.prog { frz := [1], frzv := [37], own := [3], loops := [([3, 9, 10, 11], true), ([3, 4, 9, 10, 11, 16, 17, 18], true)] } n_config_Initial = some c_config_Initial := by kernel_rfl
theorem ok_ref19_Initial : comp Try.prog { frz := [1], frzv := [41], own := [3], loops := [([1, 3, 4], true), ([1, 3, 4, 5], true)] } n_ref19_Initial = some c_ref19_Initial := by kernel_rfl
theorem ok_ref03_SameEvents : comp Try.prog { loops := [([0, 1, 5], true)] } n_ref03_SameEvents = some c_ref03_SameEvents := by kernel_rfl
theorem ok_config_States : comp Try.prog { frz := [1], topZ := [11], loops := [([3, 13, 14, 15], false), ([3, 4, 13, 14, 15, 20, 21, 22], false)] } n_config_States = some c_config_States := by kernel_rfl
theorem ok_ref19_States : comp Try.prog { frz := [1], own := [3], topZ := [5], loops := [([1, 3, 4], false), ([1, 3, 4, 5, 6], false)] } n_ref19_States = some c_ref19_States := by kernel_rfl
theorem ok_ref19_SameLPs : comp Try.prog { loops := [([0, 1, 5], true)] } n_ref19_SameLPs = some c_ref19_SameLPs := by kernel_rfl
theorem ok_ref03_SameKey : comp Try.prog {  } n_ref03_SameKey = some c_ref03_SameKey := by kernel_rfl
theorem ok_ref03_CompareEvents : comp Try.prog { frz := [2, 3] } n_ref03_CompareEvents = some c_ref03_CompareEvents := by kernel_rfl
theorem ok_law19_Base : comp Try.prog {  } n_law19_Base = some c_law19_Base := by kernel_rfl
theorem ok_ref19_sizes : comp Try.prog { frz := [1], loops := [([1, 3], true)] } n_ref19_sizes = some c_ref19_sizes := by kernel_rfl
theorem ok_ref18_Check : comp Try.prog { loops := [([0, 1, 2, 3, 9], true), ([0, 2, 3, 10], true), ([0, 3, 11], true)] } n_ref18_Check = some c_ref18_Check := by kernel_rfl
theorem ok_config_checker_sizes : comp Try.prog { frz := [1], loops := [([3, 32, 33, 34], true)] } n_config_checker_sizes = some c_config_checker_sizes := by kernel_rfl
theorem ok_config_checker_lookahead : comp Try.prog { frz := [1] } n_config_checker_lookahead = some c_config_checker_lookahead := by kernel_rfl
theorem ok_config_checker_programs : comp Try.prog { frz := [1] } n_config_checker_programs = some c_config_checker_programs := by kernel_rfl
theorem ok_config_checker_starts : comp Try.prog { frz := [1] } n_config_checker_starts = some c_config_checker_starts := by kernel_rfl
theorem ok_config_first_func_api_Errno : comp Try.prog { loops := [([1, 8, 9, 10], true)] } n_config_first_func_api_Errno = some c_config_first_func_api_Errno := by kernel_rfl
theorem ok_config_Check_1 : comp Try.prog {  } n_config_Check_1 = some c_config_Check_1 := by kernel_rfl
theorem ok_evkey_Child : comp Try.prog { mA := [6] } n_evkey_Child = some c_evkey_Child := by kernel_rfl
theorem ok_evkey_SortEvents : comp Try.prog { mA := [5], mI := [7] } n_evkey_SortEvents = some c_evkey_SortEvents := by kernel_rfl
theorem ok_ref03_SortEvents : comp Try.prog { frzv := [49], own := [6], loops := [([0, 3, 4], true), ([0, 3, 4, 5], true)] } n_ref03_SortEvents = some c_ref03_SortEvents := by kernel_rfl
theorem ok_ref03_SameEvent : comp Try.prog { frz := [2, 3] } n_ref03_SameEvent = some c_ref03_SameEvent := by kernel_rfl
theorem ok_ref19_SameLP : comp Try.prog { frz := [2, 3], loops := [([2, 3, 5], true)] } n_ref19_SameLP = some c_ref19_SameLP := by kernel_rfl
theorem ok_ref03_CompareKeys : comp Try.prog { loops := [([0, 1, 5], true)] } n_ref03_CompareKeys = some c_ref03_CompareKeys := by kernel_rfl
theorem ok_ref03_Compare : comp Try.prog {  } n_ref03_Compare = some c_ref03_Compare := by kernel_rfl
theorem ok_ref18_shape : comp Try.prog { loops := [([0, 3], true)] } n_ref18_shape = some c_ref18_shape := by kernel_rfl
theorem ok_ref18_operands : comp Try.prog { frz := [3] } n_ref18_operands = some c_ref18_operands := by kernel_rfl
theorem ok_config_within : comp Try.prog {  } n_config_within = some c_config_within := by kernel_rfl
theorem ok_config_verdict : comp Try.prog {  } n_config_verdict = some c_config_verdict := by kernel_rfl
theorem ok_config_checker_programs_1 : comp Try.prog {  } n_config_checker_programs_1 = some c_config_checker_programs_1 := by kernel_rfl
theorem ok_config_first_Lapi_Op : comp Try.prog { loops := [([1, 8, 9, 10], true)] } n_config_first_Lapi_Op = some c_config_first_Lapi_Op := by kernel_rfl
theorem ok_config_checker_starts_1 : comp Try.prog {  } n_config_checker_starts_1 = some c_config_checker_starts_1 := by kernel_rfl
theorem ok_config_first_Lapi_Start : comp Try.prog { loops := [([1, 8, 9, 10], true)] } n_config_first_Lapi_Start = some c_config_first_Lapi_Start := by kernel_rfl
theorem ok_slices_SortStableFunc_Lapi_SimEvent_api_SimEvent : comp Try.prog { mI := [8] } n_slices_SortStableFunc_Lapi_SimEvent_api_SimEvent = some c_slices_SortStableFunc_Lapi_SimEvent_api_SimEvent := by kernel_rfl
theorem ok_evkey_CompareEvents : comp Try.prog { frz := [2, 3] } n_evkey_CompareEvents = some c_evkey_CompareEvents := by kernel_rfl
theorem ok_ref18_delay : comp Try.prog {  } n_ref18_delay = some c_ref18_delay := by kernel_rfl
theorem ok_ref18_value : comp Try.prog {  } n_ref18_value = some c_ref18_value := by kernel_rfl
theorem ok_program_Check : comp Try.prog { loops := [([0, 33, 34, 35], true), ([0, 11, 33, 34, 35, 39, 40, 41], true)] } n_program_Check = some c_program_Check := by kernel_rfl
theorem ok_config_checker_starts_1_1 : comp Try.prog { frz := [2] } n_config_checker_starts_1_1 = some c_config_checker_starts_1_1 := by kernel_rfl
theorem ok_config_first_api_Start : comp Try.prog { loops := [([1, 8, 9, 10], true)] } n_config_first_api_Start = some c_config_first_api_Start := by kernel_rfl
theorem ok_slices_stableCmpFunc_api_SimEvent : comp Try.prog { mI := [18, 27, 43, 60], loops := [([0, 1, 2, 6, 7, 8], true), ([0, 1, 2, 6], true), ([0, 1, 2, 6, 7, 8], true)] } n_slices_stableCmpFunc_api_SimEvent = some c_slices_stableCmpFunc_api_SimEvent := by kernel_rfl
theorem ok_cmp_Compare_int : comp Try.prog {  } n_cmp_Compare_int = some c_cmp_Compare_int := by kernel_rfl
theorem ok_evkey_CompareKeys : comp Try.prog {  } n_evkey_CompareKeys = some c_evkey_CompareKeys := by kernel_rfl
theorem ok_evkey_first : comp Try.prog {  } n_evkey_first = some c_evkey_first := by kernel_rfl
theorem ok_program_within : comp Try.prog {  } n_program_within = some c_program_within := by kernel_rfl
theorem ok_program_checker_code : comp Try.prog { frz := [2, 3] } n_program_checker_code = some c_program_checker_code := by kernel_rfl
theorem ok_program_checker_operands : comp Try.prog { frz := [2, 3], ldF := [41, 60, 79] } n_program_checker_operands = some c_program_checker_operands := by kernel_rfl
theorem ok_program_checker_target : comp Try.prog { frz := [2, 3] } n_program_checker_target = some c_program_checker_target := by kernel_rfl
theorem ok_program_checker_early : comp Try.prog { frz := [2, 3] } n_program_checker_early = some c_program_checker_early := by kernel_rfl
theorem ok_slices_insertionSortCmpFunc_api_SimEvent : comp Try.prog { loops := [([0, 1, 2, 3, 8], true), ([0, 1, 2, 3, 8, 9], true)] } n_slices_insertionSortCmpFunc_api_SimEvent = some c_slices_insertionSortCmpFunc_api_SimEvent := by kernel_rfl
theorem ok_slices_symMergeCmpFunc_api_SimEvent : comp Try.prog { mI := [191, 205, 219], loops := [([0, 1, 4, 10, 11], true), ([0, 10, 13], true), ([0, 2, 4, 14, 15], true), ([0, 14, 17], true), ([0, 1, 2, 3, 4, 18, 19, 20, 21, 22], true)] } n_slices_symMergeCmpFunc_api_SimEvent = some c_slices_symMergeCmpFunc_api_SimEvent := by kernel_rfl
theorem ok_cmp_isNaN_int : comp Try.prog {  } n_cmp_isNaN_int = some c_cmp_isNaN_int := by kernel_rfl
theorem ok_slices_Compare_Lint_int : comp Try.prog { loops := [([0, 1, 9, 10, 11], true)] } n_slices_Compare_Lint_int = some c_slices_Compare_Lint_int := by kernel_rfl
theorem ok_cmp_Or_int : comp Try.prog { loops := [([3, 6, 7, 8], true)] } n_cmp_Or_int = some c_cmp_Or_int := by kernel_rfl
theorem ok_slices_rotateCmpFunc_api_SimEvent : comp Try.prog { mI := [31, 46, 57], loops := [([0, 2, 4, 10, 11], true)] } n_slices_rotateCmpFunc_api_SimEvent = some c_slices_rotateCmpFunc_api_SimEvent := by kernel_rfl
theorem ok_slices_swapRangeCmpFunc_api_SimEvent : comp Try.prog { loops := [([0, 1, 2, 3, 10], true)] } n_slices_swapRangeCmpFunc_api_SimEvent = some c_slices_swapRangeCmpFunc_api_SimEvent := by kernel_rfl
theorem okx_slices_Clone_Lint_int : cloneOf Try.prog n_slices_Clone_Lint_int = some (1, 8) := by kernel_rfl
theorem okx_slices_Clone_Lapi_SimEvent_api_SimEvent : cloneOf Try.prog n_slices_Clone_Lapi_SimEvent_api_SimEvent = some (6, 64) := by kernel_rfl
def codeL : List (Nat × CFunc) := [(n_law19_ConfigMatchesReference, c_law19_ConfigMatchesReference), (n_law19_ConfigConsistent, c_law19_ConfigConsistent), (n_law19_ConfigMonotone, c_law19_ConfigMonotone), (n_law19_ConfigErrors, c_law19_ConfigErrors), (n_law19_head, c_law19_head), (n_law19_Great, c_law19_Great), (n_ref19_Check, c_ref19_Check), (n_config_Check, c_config_Check), (n_config_Lookahead, c_config_Lookahead), (n_ref19_Lookahead, c_ref19_Lookahead), (n_config_Initial, c_config_Initial), (n_ref19_Initial, c_ref19_Initial), (n_ref03_SameEvents, c_ref03_SameEvents), (n_config_States, c_config_States), (n_ref19_States, c_ref19_States), (n_ref19_SameLPs, c_ref19_SameLPs), (n_ref03_SameKey, c_ref03_SameKey), (n_ref03_CompareEvents, c_ref03_CompareEvents), (n_law19_Base, c_law19_Base), (n_ref19_sizes, c_ref19_sizes), (n_ref18_Check, c_ref18_Check), (n_config_checker_sizes, c_config_checker_sizes), (n_config_checker_lookahead, c_config_checker_lookahead), (n_config_checker_programs, c_config_checker_programs), (n_config_checker_starts, c_config_checker_starts), (n_config_first_func_api_Errno, c_config_first_func_api_Errno), (n_config_Check_1, c_config_Check_1), (n_evkey_Child, c_evkey_Child), (n_evkey_SortEvents, c_evkey_SortEvents), (n_ref03_SortEvents, c_ref03_SortEvents), (n_ref03_SameEvent, c_ref03_SameEvent), (n_ref19_SameLP, c_ref19_SameLP), (n_ref03_CompareKeys, c_ref03_CompareKeys), (n_ref03_Compare, c_ref03_Compare), (n_ref18_shape, c_ref18_shape), (n_ref18_operands, c_ref18_operands), (n_config_within, c_config_within), (n_config_verdict, c_config_verdict), (n_config_checker_programs_1, c_config_checker_programs_1), (n_config_first_Lapi_Op, c_config_first_Lapi_Op), (n_config_checker_starts_1, c_config_checker_starts_1), (n_config_first_Lapi_Start, c_config_first_Lapi_Start), (n_slices_SortStableFunc_Lapi_SimEvent_api_SimEvent, c_slices_SortStableFunc_Lapi_SimEvent_api_SimEvent), (n_evkey_CompareEvents, c_evkey_CompareEvents), (n_ref18_delay, c_ref18_delay), (n_ref18_value, c_ref18_value), (n_program_Check, c_program_Check), (n_config_checker_starts_1_1, c_config_checker_starts_1_1), (n_config_first_api_Start, c_config_first_api_Start), (n_slices_stableCmpFunc_api_SimEvent, c_slices_stableCmpFunc_api_SimEvent), (n_cmp_Compare_int, c_cmp_Compare_int), (n_evkey_CompareKeys, c_evkey_CompareKeys), (n_evkey_first, c_evkey_first), (n_program_within, c_program_within), (n_program_checker_code, c_program_checker_code), (n_program_checker_operands, c_program_checker_operands), (n_program_checker_target, c_program_checker_target), (n_program_checker_early, c_program_checker_early), (n_slices_insertionSortCmpFunc_api_SimEvent, c_slices_insertionSortCmpFunc_api_SimEvent), (n_slices_symMergeCmpFunc_api_SimEvent, c_slices_symMergeCmpFunc_api_SimEvent), (n_cmp_isNaN_int, c_cmp_isNaN_int), (n_slices_Compare_Lint_int, c_slices_Compare_Lint_int), (n_cmp_Or_int, c_cmp_Or_int), (n_slices_rotateCmpFunc_api_SimEvent, c_slices_rotateCmpFunc_api_SimEvent), (n_slices_swapRangeCmpFunc_api_SimEvent, c_slices_swapRangeCmpFunc_api_SimEvent)]
def extL : List (Nat × (Nat × Nat)) := [(n_slices_Clone_Lint_int, (1, 8)), (n_slices_Clone_Lapi_SimEvent_api_SimEvent, (6, 64))]
def assoc {α : Type} : List (Nat × α) → Nat → Option α
  | [], _ => none
  | (k, x) :: l, i => if k = i then some x else assoc l i
theorem assoc_mem {α : Type} : ∀ {l : List (Nat × α)} {i : Nat} {x : α}, assoc l i = some x → (i, x) ∈ l
  | [], _, _, h => by simp [assoc] at h
  | (k, y) :: l, i, x, h => by
    simp only [assoc] at h
    split at h
    · rename_i hk; subst hk; cases h; simp
    · exact List.mem_cons_of_mem _ (assoc_mem h)
def T : Tab := { code := assoc codeL, ext := fun k => (assoc extL k).map fun p => cloneF p.1 p.2 }
theorem codeL_ok : ∀ x ∈ codeL, ∃ h, comp Try.prog h x.1 = some x.2 := by
  intro x hx
  simp only [codeL, List.mem_cons, List.not_mem_nil, or_false] at hx
  rcases hx with rfl | rfl | rfl | rfl | rfl | rfl | rfl | rfl | rfl | rfl | rfl | rfl | rfl | rfl | rfl | rfl | rfl | rfl | rfl | rfl | rfl | rfl | rfl | rfl | rfl | rfl | rfl | rfl | rfl | rfl | rfl | rfl | rfl | rfl | rfl | rfl | rfl | rfl | rfl | rfl | rfl | rfl | rfl | rfl | rfl | rfl | rfl | rfl | rfl | rfl | rfl | rfl | rfl | rfl | rfl | rfl | rfl | rfl | rfl | rfl | rfl | rfl | rfl | rfl | rfl
  · exact ⟨_, ok_law19_ConfigMatchesReference⟩
  · exact ⟨_, ok_law19_ConfigConsistent⟩
  · exact ⟨_, ok_law19_ConfigMonotone⟩
  · exact ⟨_, ok_law19_ConfigErrors⟩
  · exact ⟨_, ok_law19_head⟩
  · exact ⟨_, ok_law19_Great⟩
  · exact ⟨_, ok_ref19_Check⟩
  · exact ⟨_, ok_config_Check⟩
  · exact ⟨_, ok_config_Lookahead⟩
  · exact ⟨_, ok_ref19_Lookahead⟩
  · exact ⟨_, ok_config_Initial⟩
  · exact ⟨_, ok_ref19_Initial⟩
  · exact ⟨_, ok_ref03_SameEvents⟩
  · exact ⟨_, ok_config_States⟩
  · exact ⟨_, ok_ref19_States⟩
  · exact ⟨_, ok_ref19_SameLPs⟩
  · exact ⟨_, ok_ref03_SameKey⟩
  · exact ⟨_, ok_ref03_CompareEvents⟩
  · exact ⟨_, ok_law19_Base⟩
  · exact ⟨_, ok_ref19_sizes⟩
  · exact ⟨_, ok_ref18_Check⟩
  · exact ⟨_, ok_config_checker_sizes⟩
  · exact ⟨_, ok_config_checker_lookahead⟩
  · exact ⟨_, ok_config_checker_programs⟩
  · exact ⟨_, ok_config_checker_starts⟩
  · exact ⟨_, ok_config_first_func_api_Errno⟩
  · exact ⟨_, ok_config_Check_1⟩
  · exact ⟨_, ok_evkey_Child⟩
  · exact ⟨_, ok_evkey_SortEvents⟩
  · exact ⟨_, ok_ref03_SortEvents⟩
  · exact ⟨_, ok_ref03_SameEvent⟩
  · exact ⟨_, ok_ref19_SameLP⟩
  · exact ⟨_, ok_ref03_CompareKeys⟩
  · exact ⟨_, ok_ref03_Compare⟩
  · exact ⟨_, ok_ref18_shape⟩
  · exact ⟨_, ok_ref18_operands⟩
  · exact ⟨_, ok_config_within⟩
  · exact ⟨_, ok_config_verdict⟩
  · exact ⟨_, ok_config_checker_programs_1⟩
  · exact ⟨_, ok_config_first_Lapi_Op⟩
  · exact ⟨_, ok_config_checker_starts_1⟩
  · exact ⟨_, ok_config_first_Lapi_Start⟩
  · exact ⟨_, ok_slices_SortStableFunc_Lapi_SimEvent_api_SimEvent⟩
  · exact ⟨_, ok_evkey_CompareEvents⟩
  · exact ⟨_, ok_ref18_delay⟩
  · exact ⟨_, ok_ref18_value⟩
  · exact ⟨_, ok_program_Check⟩
  · exact ⟨_, ok_config_checker_starts_1_1⟩
  · exact ⟨_, ok_config_first_api_Start⟩
  · exact ⟨_, ok_slices_stableCmpFunc_api_SimEvent⟩
  · exact ⟨_, ok_cmp_Compare_int⟩
  · exact ⟨_, ok_evkey_CompareKeys⟩
  · exact ⟨_, ok_evkey_first⟩
  · exact ⟨_, ok_program_within⟩
  · exact ⟨_, ok_program_checker_code⟩
  · exact ⟨_, ok_program_checker_operands⟩
  · exact ⟨_, ok_program_checker_target⟩
  · exact ⟨_, ok_program_checker_early⟩
  · exact ⟨_, ok_slices_insertionSortCmpFunc_api_SimEvent⟩
  · exact ⟨_, ok_slices_symMergeCmpFunc_api_SimEvent⟩
  · exact ⟨_, ok_cmp_isNaN_int⟩
  · exact ⟨_, ok_slices_Compare_Lint_int⟩
  · exact ⟨_, ok_cmp_Or_int⟩
  · exact ⟨_, ok_slices_rotateCmpFunc_api_SimEvent⟩
  · exact ⟨_, ok_slices_swapRangeCmpFunc_api_SimEvent⟩
theorem extL_ok : ∀ x ∈ extL, cloneOf Try.prog x.1 = some x.2 := by
  intro x hx
  simp only [extL, List.mem_cons, List.not_mem_nil, or_false] at hx
  rcases hx with rfl | rfl
  · exact okx_slices_Clone_Lint_int
  · exact okx_slices_Clone_Lapi_SimEvent_api_SimEvent
theorem mixed : Try.prog.follows .mixedOrders = true := by kernel_rfl
theorem T_ok : TabOk Try.prog T where
  code k f h := codeL_ok _ (assoc_mem h)
  ext k F h := by
    simp only [T, Option.map_eq_some_iff] at h
    obtain ⟨p, h1, rfl⟩ := h
    exact clone_ok mixed (extL_ok _ (assoc_mem h1))
  mixed := mixed
theorem code_law19_ConfigMatchesReference : T.code n_law19_ConfigMatchesReference = some c_law19_ConfigMatchesReference := rfl
theorem code_law19_ConfigConsistent : T.code n_law19_ConfigConsistent = some c_law19_ConfigConsistent := rfl
theorem code_law19_ConfigMonotone : T.code n_law19_ConfigMonotone = some c_law19_ConfigMonotone := rfl
theorem code_law19_ConfigErrors : T.code n_law19_ConfigErrors = some c_law19_ConfigErrors := rfl
theorem code_law19_head : T.code n_law19_head = some c_law19_head := rfl
theorem code_law19_Great : T.code n_law19_Great = some c_law19_Great := rfl
theorem code_ref19_Check : T.code n_ref19_Check = some c_ref19_Check := rfl
theorem code_config_Check : T.code n_config_Check = some c_config_Check := rfl
theorem code_config_Lookahead : T.code n_config_Lookahead = some c_config_Lookahead := rfl
theorem code_ref19_Lookahead : T.code n_ref19_Lookahead = some c_ref19_Lookahead := rfl
theorem code_config_Initial : T.code n_config_Initial = some c_config_Initial := rfl
theorem code_ref19_Initial : T.code n_ref19_Initial = some c_ref19_Initial := rfl
theorem code_ref03_SameEvents : T.code n_ref03_SameEvents = some c_ref03_SameEvents := rfl
theorem code_config_States : T.code n_config_States = some c_config_States := rfl
theorem code_ref19_States : T.code n_ref19_States = some c_ref19_States := rfl
theorem code_ref19_SameLPs : T.code n_ref19_SameLPs = some c_ref19_SameLPs := rfl
theorem code_ref03_SameKey : T.code n_ref03_SameKey = some c_ref03_SameKey := rfl
theorem code_ref03_CompareEvents : T.code n_ref03_CompareEvents = some c_ref03_CompareEvents := rfl
theorem code_law19_Base : T.code n_law19_Base = some c_law19_Base := rfl
theorem code_ref19_sizes : T.code n_ref19_sizes = some c_ref19_sizes := rfl
theorem code_ref18_Check : T.code n_ref18_Check = some c_ref18_Check := rfl
theorem code_config_checker_sizes : T.code n_config_checker_sizes = some c_config_checker_sizes := rfl
theorem code_config_checker_lookahead : T.code n_config_checker_lookahead = some c_config_checker_lookahead := rfl
theorem code_config_checker_programs : T.code n_config_checker_programs = some c_config_checker_programs := rfl
theorem code_config_checker_starts : T.code n_config_checker_starts = some c_config_checker_starts := rfl
theorem code_config_first_func_api_Errno : T.code n_config_first_func_api_Errno = some c_config_first_func_api_Errno := rfl
theorem code_config_Check_1 : T.code n_config_Check_1 = some c_config_Check_1 := rfl
theorem code_evkey_Child : T.code n_evkey_Child = some c_evkey_Child := rfl
theorem code_evkey_SortEvents : T.code n_evkey_SortEvents = some c_evkey_SortEvents := rfl
theorem code_ref03_SortEvents : T.code n_ref03_SortEvents = some c_ref03_SortEvents := rfl
theorem code_ref03_SameEvent : T.code n_ref03_SameEvent = some c_ref03_SameEvent := rfl
theorem code_ref19_SameLP : T.code n_ref19_SameLP = some c_ref19_SameLP := rfl
theorem code_ref03_CompareKeys : T.code n_ref03_CompareKeys = some c_ref03_CompareKeys := rfl
theorem code_ref03_Compare : T.code n_ref03_Compare = some c_ref03_Compare := rfl
theorem code_ref18_shape : T.code n_ref18_shape = some c_ref18_shape := rfl
theorem code_ref18_operands : T.code n_ref18_operands = some c_ref18_operands := rfl
theorem code_config_within : T.code n_config_within = some c_config_within := rfl
theorem code_config_verdict : T.code n_config_verdict = some c_config_verdict := rfl
theorem code_config_checker_programs_1 : T.code n_config_checker_programs_1 = some c_config_checker_programs_1 := rfl
theorem code_config_first_Lapi_Op : T.code n_config_first_Lapi_Op = some c_config_first_Lapi_Op := rfl
theorem code_config_checker_starts_1 : T.code n_config_checker_starts_1 = some c_config_checker_starts_1 := rfl
theorem code_config_first_Lapi_Start : T.code n_config_first_Lapi_Start = some c_config_first_Lapi_Start := rfl
theorem code_slices_SortStableFunc_Lapi_SimEvent_api_SimEvent : T.code n_slices_SortStableFunc_Lapi_SimEvent_api_SimEvent = some c_slices_SortStableFunc_Lapi_SimEvent_api_SimEvent := rfl
theorem code_evkey_CompareEvents : T.code n_evkey_CompareEvents = some c_evkey_CompareEvents := rfl
theorem code_ref18_delay : T.code n_ref18_delay = some c_ref18_delay := rfl
theorem code_ref18_value : T.code n_ref18_value = some c_ref18_value := rfl
theorem code_program_Check : T.code n_program_Check = some c_program_Check := rfl
theorem code_config_checker_starts_1_1 : T.code n_config_checker_starts_1_1 = some c_config_checker_starts_1_1 := rfl
theorem code_config_first_api_Start : T.code n_config_first_api_Start = some c_config_first_api_Start := rfl
theorem code_slices_stableCmpFunc_api_SimEvent : T.code n_slices_stableCmpFunc_api_SimEvent = some c_slices_stableCmpFunc_api_SimEvent := rfl
theorem code_cmp_Compare_int : T.code n_cmp_Compare_int = some c_cmp_Compare_int := rfl
theorem code_evkey_CompareKeys : T.code n_evkey_CompareKeys = some c_evkey_CompareKeys := rfl
theorem code_evkey_first : T.code n_evkey_first = some c_evkey_first := rfl
theorem code_program_within : T.code n_program_within = some c_program_within := rfl
theorem code_program_checker_code : T.code n_program_checker_code = some c_program_checker_code := rfl
theorem code_program_checker_operands : T.code n_program_checker_operands = some c_program_checker_operands := rfl
theorem code_program_checker_target : T.code n_program_checker_target = some c_program_checker_target := rfl
theorem code_program_checker_early : T.code n_program_checker_early = some c_program_checker_early := rfl
theorem code_slices_insertionSortCmpFunc_api_SimEvent : T.code n_slices_insertionSortCmpFunc_api_SimEvent = some c_slices_insertionSortCmpFunc_api_SimEvent := rfl
theorem code_slices_symMergeCmpFunc_api_SimEvent : T.code n_slices_symMergeCmpFunc_api_SimEvent = some c_slices_symMergeCmpFunc_api_SimEvent := rfl
theorem code_cmp_isNaN_int : T.code n_cmp_isNaN_int = some c_cmp_isNaN_int := rfl
theorem code_slices_Compare_Lint_int : T.code n_slices_Compare_Lint_int = some c_slices_Compare_Lint_int := rfl
theorem code_cmp_Or_int : T.code n_cmp_Or_int = some c_cmp_Or_int := rfl
theorem code_slices_rotateCmpFunc_api_SimEvent : T.code n_slices_rotateCmpFunc_api_SimEvent = some c_slices_rotateCmpFunc_api_SimEvent := rfl
theorem code_slices_swapRangeCmpFunc_api_SimEvent : T.code n_slices_swapRangeCmpFunc_api_SimEvent = some c_slices_swapRangeCmpFunc_api_SimEvent := rfl
theorem ext_law19_ConfigMatchesReference : T.ext n_law19_ConfigMatchesReference = none := rfl
theorem ext_law19_ConfigConsistent : T.ext n_law19_ConfigConsistent = none := rfl
theorem ext_law19_ConfigMonotone : T.ext n_law19_ConfigMonotone = none := rfl
theorem ext_law19_ConfigErrors : T.ext n_law19_ConfigErrors = none := rfl
theorem ext_law19_head : T.ext n_law19_head = none := rfl
theorem ext_law19_Great : T.ext n_law19_Great = none := rfl
theorem ext_ref19_Check : T.ext n_ref19_Check = none := rfl
theorem ext_config_Check : T.ext n_config_Check = none := rfl
theorem ext_config_Lookahead : T.ext n_config_Lookahead = none := rfl
theorem ext_ref19_Lookahead : T.ext n_ref19_Lookahead = none := rfl
theorem ext_config_Initial : T.ext n_config_Initial = none := rfl
theorem ext_ref19_Initial : T.ext n_ref19_Initial = none := rfl
theorem ext_ref03_SameEvents : T.ext n_ref03_SameEvents = none := rfl
theorem ext_config_States : T.ext n_config_States = none := rfl
theorem ext_ref19_States : T.ext n_ref19_States = none := rfl
theorem ext_ref19_SameLPs : T.ext n_ref19_SameLPs = none := rfl
theorem ext_ref03_SameKey : T.ext n_ref03_SameKey = none := rfl
theorem ext_ref03_CompareEvents : T.ext n_ref03_CompareEvents = none := rfl
theorem ext_law19_Base : T.ext n_law19_Base = none := rfl
theorem ext_ref19_sizes : T.ext n_ref19_sizes = none := rfl
theorem ext_ref18_Check : T.ext n_ref18_Check = none := rfl
theorem ext_config_checker_sizes : T.ext n_config_checker_sizes = none := rfl
theorem ext_config_checker_lookahead : T.ext n_config_checker_lookahead = none := rfl
theorem ext_config_checker_programs : T.ext n_config_checker_programs = none := rfl
theorem ext_config_checker_starts : T.ext n_config_checker_starts = none := rfl
theorem ext_config_first_func_api_Errno : T.ext n_config_first_func_api_Errno = none := rfl
theorem ext_config_Check_1 : T.ext n_config_Check_1 = none := rfl
theorem ext_evkey_Child : T.ext n_evkey_Child = none := rfl
theorem ext_evkey_SortEvents : T.ext n_evkey_SortEvents = none := rfl
theorem ext_ref03_SortEvents : T.ext n_ref03_SortEvents = none := rfl
theorem ext_ref03_SameEvent : T.ext n_ref03_SameEvent = none := rfl
theorem ext_ref19_SameLP : T.ext n_ref19_SameLP = none := rfl
theorem ext_ref03_CompareKeys : T.ext n_ref03_CompareKeys = none := rfl
theorem ext_ref03_Compare : T.ext n_ref03_Compare = none := rfl
theorem ext_ref18_shape : T.ext n_ref18_shape = none := rfl
theorem ext_ref18_operands : T.ext n_ref18_operands = none := rfl
theorem ext_config_within : T.ext n_config_within = none := rfl
theorem ext_config_verdict : T.ext n_config_verdict = none := rfl
theorem ext_config_checker_programs_1 : T.ext n_config_checker_programs_1 = none := rfl
theorem ext_config_first_Lapi_Op : T.ext n_config_first_Lapi_Op = none := rfl
theorem ext_config_checker_starts_1 : T.ext n_config_checker_starts_1 = none := rfl
theorem ext_config_first_Lapi_Start : T.ext n_config_first_Lapi_Start = none := rfl
theorem ext_slices_SortStableFunc_Lapi_SimEvent_api_SimEvent : T.ext n_slices_SortStableFunc_Lapi_SimEvent_api_SimEvent = none := rfl
theorem ext_evkey_CompareEvents : T.ext n_evkey_CompareEvents = none := rfl
theorem ext_ref18_delay : T.ext n_ref18_delay = none := rfl
theorem ext_ref18_value : T.ext n_ref18_value = none := rfl
theorem ext_program_Check : T.ext n_program_Check = none := rfl
theorem ext_config_checker_starts_1_1 : T.ext n_config_checker_starts_1_1 = none := rfl
theorem ext_config_first_api_Start : T.ext n_config_first_api_Start = none := rfl
theorem ext_slices_stableCmpFunc_api_SimEvent : T.ext n_slices_stableCmpFunc_api_SimEvent = none := rfl
theorem ext_cmp_Compare_int : T.ext n_cmp_Compare_int = none := rfl
theorem ext_evkey_CompareKeys : T.ext n_evkey_CompareKeys = none := rfl
theorem ext_evkey_first : T.ext n_evkey_first = none := rfl
theorem ext_program_within : T.ext n_program_within = none := rfl
theorem ext_program_checker_code : T.ext n_program_checker_code = none := rfl
theorem ext_program_checker_operands : T.ext n_program_checker_operands = none := rfl
theorem ext_program_checker_target : T.ext n_program_checker_target = none := rfl
theorem ext_program_checker_early : T.ext n_program_checker_early = none := rfl
theorem ext_slices_insertionSortCmpFunc_api_SimEvent : T.ext n_slices_insertionSortCmpFunc_api_SimEvent = none := rfl
theorem ext_slices_symMergeCmpFunc_api_SimEvent : T.ext n_slices_symMergeCmpFunc_api_SimEvent = none := rfl
theorem ext_cmp_isNaN_int : T.ext n_cmp_isNaN_int = none := rfl
theorem ext_slices_Compare_Lint_int : T.ext n_slices_Compare_Lint_int = none := rfl
theorem ext_cmp_Or_int : T.ext n_cmp_Or_int = none := rfl
theorem ext_slices_rotateCmpFunc_api_SimEvent : T.ext n_slices_rotateCmpFunc_api_SimEvent = none := rfl
theorem ext_slices_swapRangeCmpFunc_api_SimEvent : T.ext n_slices_swapRangeCmpFunc_api_SimEvent = none := rfl
theorem ext_slices_Clone_Lint_int : T.ext n_slices_Clone_Lint_int = some (cloneF 1 8) := rfl
theorem ext_slices_Clone_Lapi_SimEvent_api_SimEvent : T.ext n_slices_Clone_Lapi_SimEvent_api_SimEvent = some (cloneF 6 64) := rfl
end Go.Proofs.Ytlcakphdkpdenaa.K
