/- Part of the proofs about this seat's program (module STab). -/
import Derived.Test.YtdpeepljabbcfaaSK
import Derived.Test.YtdpeepljabbcfaaProg
import Derived.KernelRfl
set_option linter.unusedSectionVars false
set_option linter.unusedSimpArgs false
set_option linter.unusedVariables false
/-
  THE TABLE OF THE COMPILED FUNCTIONS, AND THAT THEY ARE THE PROGRAM'S (printed by a program of mine).
-/
namespace Go.Proofs.Ytdpeepljabbcfaa.K
open Go.Ev
set_option maxRecDepth 100000
theorem ok_law20_ProcessMatchesReference : comp Try.prog { frz := [4, 5, 6, 7] } n_law20_ProcessMatchesReference = some c_law20_ProcessMatchesReference := by kernel_rfl
theorem ok_law20_ProcessCausal : comp Try.prog { frz := [3, 4, 5], loops := [([3, 7, 9, 11, 14], true)] } n_law20_ProcessCausal = some c_law20_ProcessCausal := by kernel_rfl
theorem ok_law20_ProcessLocal : comp Try.prog { frz := [3, 4, 5], loops := [([3, 7, 8, 9, 10, 11, 12, 13, 14], true), ([7, 8, 9, 11, 12, 13, 15], true), ([7, 8, 9, 11, 12, 13, 15, 16, 17], true)] } n_law20_ProcessLocal = some c_law20_ProcessLocal := by kernel_rfl
theorem ok_law20_ProcessValid : comp Try.prog { frz := [3, 4, 5], loops := [([7, 8, 9, 10, 14], true)] } n_law20_ProcessValid = some c_law20_ProcessValid := by kernel_rfl
theorem ok_law20_ProcessDead : comp Try.prog { frz := [3, 4, 5] } n_law20_ProcessDead = some c_law20_ProcessDead := by kernel_rfl
theorem ok_law20_ProcessShifted : comp Try.prog { frz := [4, 5, 6], loops := [([3, 9, 14, 18, 21], true)] } n_law20_ProcessShifted = some c_law20_ProcessShifted := by kernel_rfl
theorem ok_law20_head : comp Try.prog {  } n_law20_head = some c_law20_head := by kernel_rfl
theorem ok_law20_ok : comp Try.prog { frz := [1] } n_law20_ok = some c_law20_ok := by kernel_rfl
theorem ok_process_Valid : comp Try.prog { frz := [2, 3] } n_process_Valid = some c_process_Valid := by kernel_rfl
theorem ok_ref20_Valid : comp Try.prog { frz := [2, 3], loops := [([2, 3, 5], true)] } n_ref20_Valid = some c_ref20_Valid := by kernel_rfl
theorem ok_process_Equal : comp Try.prog { frz := [2, 3] } n_process_Equal = some c_process_Equal := by kernel_rfl
theorem ok_ref20_Equal : comp Try.prog { frz := [2, 3] } n_ref20_Equal = some c_ref20_Equal := by kernel_rfl
theorem ok_law20_State : comp Try.prog { frz := [2, 3], ownB := [(13, (2, 4))], loops := [([2, 3, 4, 5, 6], true)] } n_law20_State = some c_law20_State := by kernel_rfl
theorem ok_law20_Event : comp Try.prog { frz := [3, 4, 5] } n_law20_Event = some c_law20_Event := by kernel_rfl
theorem ok_process_Exec : comp Try.prog { frz := [3, 5], mA := [52], mI := [59, 82, 88], ldF := [80], ldx := [(96, 6), (100, 6), (104, 6)], ownB := [(56, (10, 6)), (56, (12, 1))] } n_process_Exec = some c_process_Exec := by kernel_rfl
theorem ok_ref20_Exec : comp Try.prog { frz := [3, 4, 5], ldx := [(96, 6), (98, 6), (100, 6)] } n_ref20_Exec = some c_ref20_Exec := by kernel_rfl
theorem ok_ref03_SameEvents : comp Try.prog { loops := [([0, 1, 5], true)] } n_ref03_SameEvents = some c_ref03_SameEvents := by kernel_rfl
theorem ok_ref20_SameKeys : comp Try.prog { loops := [([0, 1, 5], true)] } n_ref20_SameKeys = some c_ref20_SameKeys := by kernel_rfl
theorem ok_ref03_SameKey : comp Try.prog {  } n_ref03_SameKey = some c_ref03_SameKey := by kernel_rfl
theorem ok_ref03_CompareKeys : comp Try.prog { loops := [([0, 1, 5], true)] } n_ref03_CompareKeys = some c_ref03_CompareKeys := by kernel_rfl
theorem ok_ref03_SameEvent : comp Try.prog { frz := [2, 3] } n_ref03_SameEvent = some c_ref03_SameEvent := by kernel_rfl
theorem ok_law19_Base : comp Try.prog {  } n_law19_Base = some c_law19_Base := by kernel_rfl
theorem ok_ref19_States : comp Try.prog { frz := [1], own := [3], topZ := [5], loops := [([1, 3, 4], false), ([1, 3, 4, 5, 6], false)] } n_ref19_States = some c_ref19_States := by kernel_rfl
theorem ok_law19_Great : comp Try.prog { frz := [1], loops := [([1, 3], true), ([1, 4], true)] } n_law19_Great = some c_law19_Great := by kernel_rfl
theorem ok_ref19_Check : comp Try.prog { frz := [1], loops := [([1, 3], true), ([1, 5], true), ([1, 5, 6], true)] } n_ref19_Check = some c_ref19_Check := by kernel_rfl
theorem ok_process_Valid_1 : comp Try.prog { frz := [2] } n_process_Valid_1 = some c_process_Valid_1 := by kernel_rfl
theorem ok_slices_ContainsFunc_Lapi_Proc_api_Proc : comp Try.prog {  } n_slices_ContainsFunc_Lapi_Proc_api_Proc = some c_slices_ContainsFunc_Lapi_Proc_api_Proc := by kernel_rfl
theorem ok_process_Equal_1 : comp Try.prog { frz := [2, 3] } n_process_Equal_1 = some c_process_Equal_1 := by kernel_rfl
theorem ok_slices_EqualFunc_Lapi_Proc_Lapi_Proc_api_Proc_api_Proc : comp Try.prog { loops := [([1, 2, 15, 16, 17], true)] } n_slices_EqualFunc_Lapi_Proc_Lapi_Proc_api_Proc_api_Proc = some c_slices_EqualFunc_Lapi_Proc_Lapi_Proc_api_Proc_api_Proc := by kernel_rfl
theorem ok_ref19_SameLP : comp Try.prog { frz := [2, 3], loops := [([2, 3, 5], true)] } n_ref19_SameLP = some c_ref19_SameLP := by kernel_rfl
theorem ok_process_execution_self : comp Try.prog {  } n_process_execution_self = some c_process_execution_self := by kernel_rfl
theorem ok_slices_Equal_Lint_int : comp Try.prog { loops := [([0, 1, 12, 13], true)] } n_slices_Equal_Lint_int = some c_slices_Equal_Lint_int := by kernel_rfl
theorem ok_process_execution_activate : comp Try.prog { mA := [6], mI := [10, 19, 44, 49], loops := [([0, 1, 4, 7], true)] } n_process_execution_activate = some c_process_execution_activate := by kernel_rfl
theorem ok_ref20_put : comp Try.prog { frz := [5], appN := [12], frzv := [17] } n_ref20_put = some c_ref20_put := by kernel_rfl
theorem ok_ref20_activate : comp Try.prog { frz := [3], loops := [([2, 3, 4, 6, 7], true)] } n_ref20_activate = some c_ref20_activate := by kernel_rfl
theorem ok_ref03_Compare : comp Try.prog {  } n_ref03_Compare = some c_ref03_Compare := by kernel_rfl
theorem ok_ref19_sizes : comp Try.prog { frz := [1], loops := [([1, 3], true)] } n_ref19_sizes = some c_ref19_sizes := by kernel_rfl
theorem ok_ref18_Check : comp Try.prog { loops := [([0, 1, 2, 3, 9], true), ([0, 2, 3, 10], true), ([0, 3, 11], true)] } n_ref18_Check = some c_ref18_Check := by kernel_rfl
theorem ok_slices_IndexFunc_Lapi_Proc_api_Proc : comp Try.prog { loops := [([0, 1, 7, 8], true)] } n_slices_IndexFunc_Lapi_Proc_api_Proc = some c_slices_IndexFunc_Lapi_Proc_api_Proc := by kernel_rfl
theorem ok_process_instructions : comp Try.prog {  } n_process_instructions = some c_process_instructions := by kernel_rfl
theorem ok_ref20_step : comp Try.prog { frz := [5], appN := [134], frzv := [141] } n_ref20_step = some c_ref20_step := by kernel_rfl
theorem ok_ref18_shape : comp Try.prog { loops := [([0, 3], true)] } n_ref18_shape = some c_ref18_shape := by kernel_rfl
theorem ok_ref18_operands : comp Try.prog { frz := [3] } n_ref18_operands = some c_ref18_operands := by kernel_rfl
theorem ok_process_execution_hold : comp Try.prog { frz := [3], mI := [14, 15], ldF := [7] } n_process_execution_hold = some c_process_execution_hold := by kernel_rfl
theorem ok_process_execution_send : comp Try.prog { frz := [3], mI := [13] } n_process_execution_send = some c_process_execution_send := by kernel_rfl
theorem ok_process_execution_timer : comp Try.prog { frz := [3], mI := [7, 21, 22], mR := [9], ldF := [12] } n_process_execution_timer = some c_process_execution_timer := by kernel_rfl
theorem ok_process_execution_stop : comp Try.prog { frz := [3], mI := [7] } n_process_execution_stop = some c_process_execution_stop := by kernel_rfl
theorem ok_process_execution_spawn : comp Try.prog { frz := [3], mI := [33, 34], ldF := [30] } n_process_execution_spawn = some c_process_execution_spawn := by kernel_rfl
theorem ok_process_execution_add : comp Try.prog { frz := [3] } n_process_execution_add = some c_process_execution_add := by kernel_rfl
theorem ok_process_execution_less : comp Try.prog { frz := [3], mI := [17], ldF := [19] } n_process_execution_less = some c_process_execution_less := by kernel_rfl
theorem ok_process_execution_end : comp Try.prog { frz := [3] } n_process_execution_end = some c_process_execution_end := by kernel_rfl
theorem ok_ref20_create : comp Try.prog { appN := [36], frzv := [41], ldx := [(32, 6), (45, 6)] } n_ref20_create = some c_ref20_create := by kernel_rfl
theorem ok_ref20_cancelled : comp Try.prog { appN := [8] } n_ref20_cancelled = some c_ref20_cancelled := by kernel_rfl
theorem ok_ref18_delay : comp Try.prog {  } n_ref18_delay = some c_ref18_delay := by kernel_rfl
theorem ok_ref18_value : comp Try.prog {  } n_ref18_value = some c_ref18_value := by kernel_rfl
theorem ok_process_execution_own : comp Try.prog {  } n_process_execution_own = some c_process_execution_own := by kernel_rfl
theorem ok_process_execution_create : comp Try.prog {  } n_process_execution_create = some c_process_execution_create := by kernel_rfl
theorem ok_ref03_Child : comp Try.prog { appN := [8] } n_ref03_Child = some c_ref03_Child := by kernel_rfl
theorem ok_evkey_Child : comp Try.prog { mA := [6] } n_evkey_Child = some c_evkey_Child := by kernel_rfl
theorem okx_slices_Clone_Lapi_Proc_api_Proc : cloneOf Try.prog n_slices_Clone_Lapi_Proc_api_Proc = some (4, 48) := by kernel_rfl
theorem okx_slices_Clone_Lint_int : cloneOf Try.prog n_slices_Clone_Lint_int = some (1, 8) := by kernel_rfl
def codeL : List (Nat × CFunc) := [(n_law20_ProcessMatchesReference, c_law20_ProcessMatchesReference), (n_law20_ProcessCausal, c_law20_ProcessCausal), (n_law20_ProcessLocal, c_law20_ProcessLocal), (n_law20_ProcessValid, c_law20_ProcessValid), (n_law20_ProcessDead, c_law20_ProcessDead), (n_law20_ProcessShifted, c_law20_ProcessShifted), (n_law20_head, c_law20_head), (n_law20_ok, c_law20_ok), (n_process_Valid, c_process_Valid), (n_ref20_Valid, c_ref20_Valid), (n_process_Equal, c_process_Equal), (n_ref20_Equal, c_ref20_Equal), (n_law20_State, c_law20_State), (n_law20_Event, c_law20_Event), (n_process_Exec, c_process_Exec), (n_ref20_Exec, c_ref20_Exec), (n_ref03_SameEvents, c_ref03_SameEvents), (n_ref20_SameKeys, c_ref20_SameKeys), (n_ref03_SameKey, c_ref03_SameKey), (n_ref03_CompareKeys, c_ref03_CompareKeys), (n_ref03_SameEvent, c_ref03_SameEvent), (n_law19_Base, c_law19_Base), (n_ref19_States, c_ref19_States), (n_law19_Great, c_law19_Great), (n_ref19_Check, c_ref19_Check), (n_process_Valid_1, c_process_Valid_1), (n_slices_ContainsFunc_Lapi_Proc_api_Proc, c_slices_ContainsFunc_Lapi_Proc_api_Proc), (n_process_Equal_1, c_process_Equal_1), (n_slices_EqualFunc_Lapi_Proc_Lapi_Proc_api_Proc_api_Proc, c_slices_EqualFunc_Lapi_Proc_Lapi_Proc_api_Proc_api_Proc), (n_ref19_SameLP, c_ref19_SameLP), (n_process_execution_self, c_process_execution_self), (n_slices_Equal_Lint_int, c_slices_Equal_Lint_int), (n_process_execution_activate, c_process_execution_activate), (n_ref20_put, c_ref20_put), (n_ref20_activate, c_ref20_activate), (n_ref03_Compare, c_ref03_Compare), (n_ref19_sizes, c_ref19_sizes), (n_ref18_Check, c_ref18_Check), (n_slices_IndexFunc_Lapi_Proc_api_Proc, c_slices_IndexFunc_Lapi_Proc_api_Proc), (n_process_instructions, c_process_instructions), (n_ref20_step, c_ref20_step), (n_ref18_shape, c_ref18_shape), (n_ref18_operands, c_ref18_operands), (n_process_execution_hold, c_process_execution_hold), (n_process_execution_send, c_process_execution_send), (n_process_execution_timer, c_process_execution_timer), (n_process_execution_stop, c_process_execution_stop), (n_process_execution_spawn, c_process_execution_spawn), (n_process_execution_add, c_process_execution_add), (n_process_execution_less, c_process_execution_less), (n_process_execution_end, c_process_execution_end), (n_ref20_create, c_ref20_create), (n_ref20_cancelled, c_ref20_cancelled), (n_ref18_delay, c_ref18_delay), (n_ref18_value, c_ref18_value), (n_process_execution_own, c_process_execution_own), (n_process_execution_create, c_process_execution_create), (n_ref03_Child, c_ref03_Child), (n_evkey_Child, c_evkey_Child)]
def extL : List (Nat × (Nat × Nat)) := [(n_slices_Clone_Lapi_Proc_api_Proc, (4, 48)), (n_slices_Clone_Lint_int, (1, 8))]
def assoc {α : Type} : List (Nat × α) → Nat → Option α
  | [], _ => none
  | (k, x) :: l, i => if k = i then some x else assoc l i
theorem assoc_mem {α : Type} : ∀ {l : List (Nat × α)} {i : Nat} {x : α}, assoc l i = some x → (i, x) ∈ l
  | [], _, _, h => by simp [assoc] at h
  | (k, y) :: l, i, x, h => by
    simp only [assoc] at h
    split at h
    · rename_i hk; subst hk; cases h; simp
    · exact List.mem_cons_of_mem _ (assoc_mem h)
def T : Tab := { code := assoc codeL, ext := fun k => (assoc extL k).map fun p => cloneF p.1 p.2 }
theorem codeL_ok : ∀ x ∈ codeL, ∃ h, comp Try.prog h x.1 = some x.2 := by
  intro x hx
  simp only [codeL, List.mem_cons, List.not_mem_nil, or_false] at hx
  rcases hx with rfl | rfl | rfl | rfl | rfl | rfl | rfl | rfl | rfl | rfl | rfl | rfl | rfl | rfl | rfl | rfl | rfl | rfl | rfl | rfl | rfl | rfl | rfl | rfl | rfl | rfl | rfl | rfl | rfl | rfl | rfl | rfl | rfl | rfl | rfl | rfl | rfl | rfl | rfl | rfl | rfl | rfl | rfl | rfl | rfl | rfl | rfl | rfl | rfl | rfl | rfl | rfl | rfl | rfl | rfl | rfl | rfl | rfl | rfl
  · exact ⟨_, ok_law20_ProcessMatchesReference⟩
  · exact ⟨_, ok_law20_ProcessCausal⟩
  · exact ⟨_, ok_law20_ProcessLocal⟩
  · exact ⟨_, ok_law20_ProcessValid⟩
  · exact ⟨_, ok_law20_ProcessDead⟩
  · exact ⟨_, ok_law20_ProcessShifted⟩
  · exact ⟨_, ok_law20_head⟩
  · exact ⟨_, ok_law20_ok⟩
  · exact ⟨_, ok_process_Valid⟩
  · exact ⟨_, ok_ref20_Valid⟩
  · exact ⟨_, ok_process_Equal⟩
  · exact ⟨_, ok_ref20_Equal⟩
  · exact ⟨_, ok_law20_State⟩
  · exact ⟨_, ok_law20_Event⟩
  · exact ⟨_, ok_process_Exec⟩
  · exact ⟨_, ok_ref20_Exec⟩
  · exact ⟨_, ok_ref03_SameEvents⟩
  · exact ⟨_, ok_ref20_SameKeys⟩
  · exact ⟨_, ok_ref03_SameKey⟩
  · exact ⟨_, ok_ref03_CompareKeys⟩
  · exact ⟨_, ok_ref03_SameEvent⟩
  · exact ⟨_, ok_law19_Base⟩
  · exact ⟨_, ok_ref19_States⟩
  · exact ⟨_, ok_law19_Great⟩
  · exact ⟨_, ok_ref19_Check⟩
  · exact ⟨_, ok_process_Valid_1⟩
  · exact ⟨_, ok_slices_ContainsFunc_Lapi_Proc_api_Proc⟩
  · exact ⟨_, ok_process_Equal_1⟩
  · exact ⟨_, ok_slices_EqualFunc_Lapi_Proc_Lapi_Proc_api_Proc_api_Proc⟩
  · exact ⟨_, ok_ref19_SameLP⟩
  · exact ⟨_, ok_process_execution_self⟩
  · exact ⟨_, ok_slices_Equal_Lint_int⟩
  · exact ⟨_, ok_process_execution_activate⟩
  · exact ⟨_, ok_ref20_put⟩
  · exact ⟨_, ok_ref20_activate⟩
  · exact ⟨_, ok_ref03_Compare⟩
  · exact ⟨_, ok_ref19_sizes⟩
  · exact ⟨_, ok_ref18_Check⟩
  · exact ⟨_, ok_slices_IndexFunc_Lapi_Proc_api_Proc⟩
  · exact ⟨_, ok_process_instructions⟩
  · exact ⟨_, ok_ref20_step⟩
  · exact ⟨_, ok_ref18_shape⟩
  · exact ⟨_, ok_ref18_operands⟩
  · exact ⟨_, ok_process_execution_hold⟩
  · exact ⟨_, ok_process_execution_send⟩
  · exact ⟨_, ok_process_execution_timer⟩
  · exact ⟨_, ok_process_execution_stop⟩
  · exact ⟨_, ok_process_execution_spawn⟩
  · exact ⟨_, ok_process_execution_add⟩
  · exact ⟨_, ok_process_execution_less⟩
  · exact ⟨_, ok_process_execution_end⟩
  · exact ⟨_, ok_ref20_create⟩
  · exact ⟨_, ok_ref20_cancelled⟩
  · exact ⟨_, ok_ref18_delay⟩
  · exact ⟨_, ok_ref18_value⟩
  · exact ⟨_, ok_process_execution_own⟩
  · exact ⟨_, ok_process_execution_create⟩
  · exact ⟨_, ok_ref03_Child⟩
  · exact ⟨_, ok_evkey_Child⟩
theorem extL_ok : ∀ x ∈ extL, cloneOf Try.prog x.1 = some x.2 := by
  intro x hx
  simp only [extL, List.mem_cons, List.not_mem_nil, or_false] at hx
  rcases hx with rfl | rfl
  · exact okx_slices_Clone_Lapi_Proc_api_Proc
  · exact okx_slices_Clone_Lint_int
theorem mixed : Try.prog.follows .mixedOrders = true := by kernel_rfl
theorem T_ok : TabOk Try.prog T where
  code k f h := codeL_ok _ (assoc_mem h)
  ext k F h := by
    simp only [T, Option.map_eq_some_iff] at h
    obtain ⟨p, h1, rfl⟩ := h
    exact clone_ok mixed (extL_ok _ (assoc_mem h1))
  mixed := mixed
theorem code_law20_ProcessMatchesReference : T.code n_law20_ProcessMatchesReference = some c_law20_ProcessMatchesReference := rfl
theorem code_law20_ProcessCausal : T.code n_law20_ProcessCausal = some c_law20_ProcessCausal := rfl
theorem code_law20_ProcessLocal : T.code n_law20_ProcessLocal = some c_law20_ProcessLocal := rfl
theorem code_law20_ProcessValid : T.code n_law20_ProcessValid = some c_law20_ProcessValid := rfl
theorem code_law20_ProcessDead : T.code n_law20_ProcessDead = some c_law20_ProcessDead := rfl
theorem code_law20_ProcessShifted : T.code n_law20_ProcessShifted = some c_law20_ProcessShifted := rfl
theorem code_law20_head : T.code n_law20_head = some c_law20_head := rfl
theorem code_law20_ok : T.code n_law20_ok = some c_law20_ok := rfl
theorem code_process_Valid : T.code n_process_Valid = some c_process_Valid := rfl
theorem code_ref20_Valid : T.code n_ref20_Valid = some c_ref20_Valid := rfl
theorem code_process_Equal : T.code n_process_Equal = some c_process_Equal := rfl
theorem code_ref20_Equal : T.code n_ref20_Equal = some c_ref20_Equal := rfl
theorem code_law20_State : T.code n_law20_State = some c_law20_State := rfl
theorem code_law20_Event : T.code n_law20_Event = some c_law20_Event := rfl
theorem code_process_Exec : T.code n_process_Exec = some c_process_Exec := rfl
theorem code_ref20_Exec : T.code n_ref20_Exec = some c_ref20_Exec := rfl
theorem code_ref03_SameEvents : T.code n_ref03_SameEvents = some c_ref03_SameEvents := rfl
theorem code_ref20_SameKeys : T.code n_ref20_SameKeys = some c_ref20_SameKeys := rfl
theorem code_ref03_SameKey : T.code n_ref03_SameKey = some c_ref03_SameKey := rfl
theorem code_ref03_CompareKeys : T.code n_ref03_CompareKeys = some c_ref03_CompareKeys := rfl
theorem code_ref03_SameEvent : T.code n_ref03_SameEvent = some c_ref03_SameEvent := rfl
theorem code_law19_Base : T.code n_law19_Base = some c_law19_Base := rfl
theorem code_ref19_States : T.code n_ref19_States = some c_ref19_States := rfl
theorem code_law19_Great : T.code n_law19_Great = some c_law19_Great := rfl
theorem code_ref19_Check : T.code n_ref19_Check = some c_ref19_Check := rfl
theorem code_process_Valid_1 : T.code n_process_Valid_1 = some c_process_Valid_1 := rfl
theorem code_slices_ContainsFunc_Lapi_Proc_api_Proc : T.code n_slices_ContainsFunc_Lapi_Proc_api_Proc = some c_slices_ContainsFunc_Lapi_Proc_api_Proc := rfl
theorem code_process_Equal_1 : T.code n_process_Equal_1 = some c_process_Equal_1 := rfl
theorem code_slices_EqualFunc_Lapi_Proc_Lapi_Proc_api_Proc_api_Proc : T.code n_slices_EqualFunc_Lapi_Proc_Lapi_Proc_api_Proc_api_Proc = some c_slices_EqualFunc_Lapi_Proc_Lapi_Proc_api_Proc_api_Proc := rfl
theorem code_ref19_SameLP : T.code n_ref19_SameLP = some c_ref19_SameLP := rfl
theorem code_process_execution_self : T.code n_process_execution_self = some c_process_execution_self := rfl
theorem code_slices_Equal_Lint_int : T.code n_slices_Equal_Lint_int = some c_slices_Equal_Lint_int := rfl
theorem code_process_execution_activate : T.code n_process_execution_activate = some c_process_execution_activate := rfl
theorem code_ref20_put : T.code n_ref20_put = some c_ref20_put := rfl
theorem code_ref20_activate : T.code n_ref20_activate = some c_ref20_activate := rfl
theorem code_ref03_Compare : T.code n_ref03_Compare = some c_ref03_Compare := rfl
theorem code_ref19_sizes : T.code n_ref19_sizes = some c_ref19_sizes := rfl
theorem code_ref18_Check : T.code n_ref18_Check = some c_ref18_Check := rfl
theorem code_slices_IndexFunc_Lapi_Proc_api_Proc : T.code n_slices_IndexFunc_Lapi_Proc_api_Proc = some c_slices_IndexFunc_Lapi_Proc_api_Proc := rfl
theorem code_process_instructions : T.code n_process_instructions = some c_process_instructions := rfl
theorem code_ref20_step : T.code n_ref20_step = some c_ref20_step := rfl
theorem code_ref18_shape : T.code n_ref18_shape = some c_ref18_shape := rfl
theorem code_ref18_operands : T.code n_ref18_operands = some c_ref18_operands := rfl
theorem code_process_execution_hold : T.code n_process_execution_hold = some c_process_execution_hold := rfl
theorem code_process_execution_send : T.code n_process_execution_send = some c_process_execution_send := rfl
theorem code_process_execution_timer : T.code n_process_execution_timer = some c_process_execution_timer := rfl
theorem code_process_execution_stop : T.code n_process_execution_stop = some c_process_execution_stop := rfl
theorem code_process_execution_spawn : T.code n_process_execution_spawn = some c_process_execution_spawn := rfl
theorem code_process_execution_add : T.code n_process_execution_add = some c_process_execution_add := rfl
theorem code_process_execution_less : T.code n_process_execution_less = some c_process_execution_less := rfl
theorem code_process_execution_end : T.code n_process_execution_end = some c_process_execution_end := rfl
theorem code_ref20_create : T.code n_ref20_create = some c_ref20_create := rfl
theorem code_ref20_cancelled : T.code n_ref20_cancelled = some c_ref20_cancelled := rfl
theorem code_ref18_delay : T.code n_ref18_delay = some c_ref18_delay := rfl
theorem code_ref18_value : T.code n_ref18_value = some c_ref18_value := rfl
theorem code_process_execution_own : T.code n_process_execution_own = some c_process_execution_own := rfl
theorem code_process_execution_create : T.code n_process_execution_create = some c_process_execution_create := rfl
theorem code_ref03_Child : T.code n_ref03_Child = some c_ref03_Child := rfl
theorem code_evkey_Child : T.code n_evkey_Child = some c_evkey_Child := rfl
theorem ext_law20_ProcessMatchesReference : T.ext n_law20_ProcessMatchesReference = none := rfl
theorem ext_law20_ProcessCausal : T.ext n_law20_ProcessCausal = none := rfl
theorem ext_law20_ProcessLocal : T.ext n_law20_ProcessLocal = none := rfl
theorem ext_law20_ProcessValid : T.ext n_law20_ProcessValid = none := rfl
theorem ext_law20_ProcessDead : T.ext n_law20_ProcessDead = none := rfl
theorem ext_law20_ProcessShifted : T.ext n_law20_ProcessShifted = none := rfl
theorem ext_law20_head : T.ext n_law20_head = none := rfl
theorem ext_law20_ok : T.ext n_law20_ok = none := rfl
theorem ext_process_Valid : T.ext n_process_Valid = none := rfl
theorem ext_ref20_Valid : T.ext n_ref20_Valid = none := rfl
theorem ext_process_Equal : T.ext n_process_Equal = none := rfl
theorem ext_ref20_Equal : T.ext n_ref20_Equal = none := rfl
theorem ext_law20_State : T.ext n_law20_State = none := rfl
theorem ext_law20_Event : T.ext n_law20_Event = none := rfl
theorem ext_process_Exec : T.ext n_process_Exec = none := rfl
theorem ext_ref20_Exec : T.ext n_ref20_Exec = none := rfl
theorem ext_ref03_SameEvents : T.ext n_ref03_SameEvents = none := rfl
theorem ext_ref20_SameKeys : T.ext n_ref20_SameKeys = none := rfl
theorem ext_ref03_SameKey : T.ext n_ref03_SameKey = none := rfl
theorem ext_ref03_CompareKeys : T.ext n_ref03_CompareKeys = none := rfl
theorem ext_ref03_SameEvent : T.ext n_ref03_SameEvent = none := rfl
theorem ext_law19_Base : T.ext n_law19_Base = none := rfl
theorem ext_ref19_States : T.ext n_ref19_States = none := rfl
theorem ext_law19_Great : T.ext n_law19_Great = none := rfl
theorem ext_ref19_Check : T.ext n_ref19_Check = none := rfl
theorem ext_process_Valid_1 : T.ext n_process_Valid_1 = none := rfl
theorem ext_slices_ContainsFunc_Lapi_Proc_api_Proc : T.ext n_slices_ContainsFunc_Lapi_Proc_api_Proc = none := rfl
theorem ext_process_Equal_1 : T.ext n_process_Equal_1 = none := rfl
theorem ext_slices_EqualFunc_Lapi_Proc_Lapi_Proc_api_Proc_api_Proc : T.ext n_slices_EqualFunc_Lapi_Proc_Lapi_Proc_api_Proc_api_Proc = none := rfl
theorem ext_ref19_SameLP : T.ext n_ref19_SameLP = none := rfl
theorem ext_process_execution_self : T.ext n_process_execution_self = none := rfl
theorem ext_slices_Equal_Lint_int : T.ext n_slices_Equal_Lint_int = none := rfl
theorem ext_process_execution_activate : T.ext n_process_execution_activate = none := rfl
theorem ext_ref20_put : T.ext n_ref20_put = none := rfl
theorem ext_ref20_activate : T.ext n_ref20_activate = none := rfl
theorem ext_ref03_Compare : T.ext n_ref03_Compare = none := rfl
theorem ext_ref19_sizes : T.ext n_ref19_sizes = none := rfl
theorem ext_ref18_Check : T.ext n_ref18_Check = none := rfl
theorem ext_slices_IndexFunc_Lapi_Proc_api_Proc : T.ext n_slices_IndexFunc_Lapi_Proc_api_Proc = none := rfl
theorem ext_process_instructions : T.ext n_process_instructions = none := rfl
theorem ext_ref20_step : T.ext n_ref20_step = none := rfl
theorem ext_ref18_shape : T.ext n_ref18_shape = none := rfl
theorem ext_ref18_operands : T.ext n_ref18_operands = none := rfl
theorem ext_process_execution_hold : T.ext n_process_execution_hold = none := rfl
theorem ext_process_execution_send : T.ext n_process_execution_send = none := rfl
theorem ext_process_execution_timer : T.ext n_process_execution_timer = none := rfl
theorem ext_process_execution_stop : T.ext n_process_execution_stop = none := rfl
theorem ext_process_execution_spawn : T.ext n_process_execution_spawn = none := rfl
theorem ext_process_execution_add : T.ext n_process_execution_add = none := rfl
theorem ext_process_execution_less : T.ext n_process_execution_less = none := rfl
theorem ext_process_execution_end : T.ext n_process_execution_end = none := rfl
theorem ext_ref20_create : T.ext n_ref20_create = none := rfl
theorem ext_ref20_cancelled : T.ext n_ref20_cancelled = none := rfl
theorem ext_ref18_delay : T.ext n_ref18_delay = none := rfl
theorem ext_ref18_value : T.ext n_ref18_value = none := rfl
theorem ext_process_execution_own : T.ext n_process_execution_own = none := rfl
theorem ext_process_execution_create : T.ext n_process_execution_create = none := rfl
theorem ext_ref03_Child : T.ext n_ref03_Child = none := rfl
theorem ext_evkey_Child : T.ext n_evkey_Child = none := rfl
theorem ext_slices_Clone_Lapi_Proc_api_Proc : T.ext n_slices_Clone_Lapi_Proc_api_Proc = some (cloneF 4 48) := rfl
theorem ext_slices_Clone_Lint_int : T.ext n_slices_Clone_Lint_int = some (cloneF 1 8) := rfl
end Go.Proofs.Ytdpeepljabbcfaa.K
