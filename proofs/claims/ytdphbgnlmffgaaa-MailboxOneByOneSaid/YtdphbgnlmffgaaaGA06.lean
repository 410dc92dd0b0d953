/- For every input the statement of this claim returns true: texts of its proof, joined (part 7). -/
import Derived.Test.YtdphbgnlmffgaaaProg
import Derived.KernelRfl
import Derived.Test.YtdphbgnlmffgaaaE3
import Derived.Test.YtdphbgnlmffgaaaSKA
set_option linter.unusedSectionVars false
set_option linter.unusedSimpArgs false
set_option linter.unusedVariables false
namespace Go.Proofs.Ytdphbgnlmffgaaa.K
open Go.Ev
set_option maxRecDepth 100000
theorem ok_law22_MailboxMatchesReference : comp Try.prog {  } n_law22_MailboxMatchesReference = some c_law22_MailboxMatchesReference := by kernel_rfl
theorem ok_law22_MailboxOrdered : comp Try.prog {  } n_law22_MailboxOrdered = some c_law22_MailboxOrdered := by kernel_rfl
theorem ok_law22_MailboxOneByOne : comp Try.prog { loops := [([5, 7, 8, 9, 10, 11], true)] } n_law22_MailboxOneByOne = some c_law22_MailboxOneByOne := by kernel_rfl
theorem ok_law22_MailboxDrains : comp Try.prog { loops := [([1, 5, 6, 7, 8], true), ([1, 5, 6, 7, 9, 10], true)] } n_law22_MailboxDrains = some c_law22_MailboxDrains := by kernel_rfl
theorem ok_law22_MailboxCancels : comp Try.prog { frz := [3], loops := [([3, 5, 6, 7], true)] } n_law22_MailboxCancels = some c_law22_MailboxCancels := by kernel_rfl
theorem ok_law22_head : comp Try.prog {  } n_law22_head = some c_law22_head := by kernel_rfl
theorem ok_law03_Great : comp Try.prog { loops := [([0, 3], true)] } n_law03_Great = some c_law03_Great := by kernel_rfl
theorem ok_mailbox_Valid : comp Try.prog { loops := [([0, 5, 6], true)] } n_mailbox_Valid = some c_mailbox_Valid := by kernel_rfl
theorem ok_ref22_Valid : comp Try.prog { loops := [([0, 3], true)] } n_ref22_Valid = some c_ref22_Valid := by kernel_rfl
theorem ok_law22_split : comp Try.prog {  } n_law22_split = some c_law22_split := by kernel_rfl
theorem ok_mailbox_Insert : comp Try.prog { frz := [3], mA := [14], mI := [18] } n_mailbox_Insert = some c_mailbox_Insert := by kernel_rfl
theorem ok_ref22_Insert : comp Try.prog { frz := [3], own := [6], loops := [([0, 3, 5], true)] } n_ref22_Insert = some c_ref22_Insert := by kernel_rfl
theorem ok_ref03_SameEvents : comp Try.prog { loops := [([0, 1, 5], true)] } n_ref03_SameEvents = some c_ref03_SameEvents := by kernel_rfl
theorem ok_mailbox_Take : comp Try.prog { mA := [20] } n_mailbox_Take = some c_mailbox_Take := by kernel_rfl
theorem ok_ref22_Take : comp Try.prog { appN := [23] } n_ref22_Take = some c_ref22_Take := by kernel_rfl
theorem ok_mailbox_Cancel : comp Try.prog { frz := [3], mA := [21], mI := [9] } n_mailbox_Cancel = some c_mailbox_Cancel := by kernel_rfl
theorem ok_ref22_Cancel : comp Try.prog { appN := [25], loops := [([0, 1, 6], true)] } n_ref22_Cancel = some c_ref22_Cancel := by kernel_rfl
theorem ok_mailbox_Merge : comp Try.prog { mA := [8], mI := [9] } n_mailbox_Merge = some c_mailbox_Merge := by kernel_rfl
theorem ok_ref22_Merge : comp Try.prog { loops := [([1, 5, 6], true)] } n_ref22_Merge = some c_ref22_Merge := by kernel_rfl
theorem ok_ref03_SameEvent : comp Try.prog { frz := [2, 3] } n_ref03_SameEvent = some c_ref03_SameEvent := by kernel_rfl
theorem ok_ref22_Distinct : comp Try.prog { own := [3], loops := [([0, 3, 4], true), ([0, 3, 4, 5, 6], true)] } n_ref22_Distinct = some c_ref22_Distinct := by kernel_rfl
theorem ok_ref03_SortEvents : comp Try.prog { frzv := [49], own := [6], loops := [([0, 3, 4], true), ([0, 3, 4, 5], true)] } n_ref03_SortEvents = some c_ref03_SortEvents := by kernel_rfl
theorem ok_ref03_SameKey : comp Try.prog {  } n_ref03_SameKey = some c_ref03_SameKey := by kernel_rfl
theorem ok_evkey_CompareEvents : comp Try.prog { frz := [2, 3] } n_evkey_CompareEvents = some c_evkey_CompareEvents := by kernel_rfl
theorem ok_ref03_CompareEvents : comp Try.prog { frz := [2, 3] } n_ref03_CompareEvents = some c_ref03_CompareEvents := by kernel_rfl
theorem ok_slices_BinarySearchFunc_Lapi_SimEvent_api_SimEvent_api_SimEvent : comp Try.prog { frz := [4], loops := [([0, 2, 4, 8, 9, 10], true)] } n_slices_BinarySearchFunc_Lapi_SimEvent_api_SimEvent_api_SimEvent = some c_slices_BinarySearchFunc_Lapi_SimEvent_api_SimEvent_api_SimEvent := by kernel_rfl
theorem ok_mailbox_Cancel_1 : comp Try.prog { frz := [2] } n_mailbox_Cancel_1 = some c_mailbox_Cancel_1 := by kernel_rfl
theorem ok_slices_IndexFunc_Lapi_SimEvent_api_SimEvent : comp Try.prog { loops := [([0, 1, 7, 8], true)] } n_slices_IndexFunc_Lapi_SimEvent_api_SimEvent = some c_slices_IndexFunc_Lapi_SimEvent_api_SimEvent := by kernel_rfl
theorem ok_slices_Concat_Lapi_SimEvent_api_SimEvent : comp Try.prog { mA := [24], bad := true, loops := [([0, 3, 9, 10, 11], true), ([6, 25, 26, 27], false)] } n_slices_Concat_Lapi_SimEvent_api_SimEvent = some c_slices_Concat_Lapi_SimEvent_api_SimEvent := by kernel_rfl
theorem ok_evkey_SortEvents : comp Try.prog { mA := [5], mI := [7] } n_evkey_SortEvents = some c_evkey_SortEvents := by kernel_rfl
theorem ok_mailbox_merged : comp Try.prog {  } n_mailbox_merged = some c_mailbox_merged := by kernel_rfl
theorem ok_slices_Collect_api_SimEvent : comp Try.prog { mI := [4] } n_slices_Collect_api_SimEvent = some c_slices_Collect_api_SimEvent := by kernel_rfl
theorem ok_ref03_CompareKeys : comp Try.prog { loops := [([0, 1, 5], true)] } n_ref03_CompareKeys = some c_ref03_CompareKeys := by kernel_rfl
theorem ok_cmp_Compare_int : comp Try.prog {  } n_cmp_Compare_int = some c_cmp_Compare_int := by kernel_rfl
theorem ok_evkey_CompareKeys : comp Try.prog {  } n_evkey_CompareKeys = some c_evkey_CompareKeys := by kernel_rfl
theorem ok_evkey_first : comp Try.prog {  } n_evkey_first = some c_evkey_first := by kernel_rfl
theorem ok_ref03_Compare : comp Try.prog {  } n_ref03_Compare = some c_ref03_Compare := by kernel_rfl
theorem ok_slices_Equal_Lint_int : comp Try.prog { loops := [([0, 1, 12, 13], true)] } n_slices_Equal_Lint_int = some c_slices_Equal_Lint_int := by kernel_rfl
theorem ok_slices_Grow_Lapi_SimEvent_api_SimEvent : comp Try.prog { bad := true } n_slices_Grow_Lapi_SimEvent_api_SimEvent = some c_slices_Grow_Lapi_SimEvent_api_SimEvent := by kernel_rfl
theorem ok_slices_SortStableFunc_Lapi_SimEvent_api_SimEvent : comp Try.prog { mI := [8] } n_slices_SortStableFunc_Lapi_SimEvent_api_SimEvent = some c_slices_SortStableFunc_Lapi_SimEvent_api_SimEvent := by kernel_rfl
theorem ok_mailbox_merged_1 : comp Try.prog { loops := [([0, 1, 2], true)] } n_mailbox_merged_1 = some c_mailbox_merged_1 := by kernel_rfl
theorem ok_slices_AppendSeq_Lapi_SimEvent_api_SimEvent : comp Try.prog { own := [2], loops := [([2], true)] } n_slices_AppendSeq_Lapi_SimEvent_api_SimEvent = some c_slices_AppendSeq_Lapi_SimEvent_api_SimEvent := by kernel_rfl
theorem ok_cmp_isNaN_int : comp Try.prog {  } n_cmp_isNaN_int = some c_cmp_isNaN_int := by kernel_rfl
theorem ok_slices_Compare_Lint_int : comp Try.prog { loops := [([0, 1, 9, 10, 11], true)] } n_slices_Compare_Lint_int = some c_slices_Compare_Lint_int := by kernel_rfl
theorem ok_cmp_Or_int : comp Try.prog { loops := [([3, 6, 7, 8], true)] } n_cmp_Or_int = some c_cmp_Or_int := by kernel_rfl
theorem ok_slices_stableCmpFunc_api_SimEvent : comp Try.prog { mI := [18, 27, 43, 60], loops := [([0, 1, 2, 6, 7, 8], true), ([0, 1, 2, 6], true), ([0, 1, 2, 6, 7, 8], true)] } n_slices_stableCmpFunc_api_SimEvent = some c_slices_stableCmpFunc_api_SimEvent := by kernel_rfl
theorem ok_slices_insertionSortCmpFunc_api_SimEvent : comp Try.prog { loops := [([0, 1, 2, 3, 8], true), ([0, 1, 2, 3, 8, 9], true)] } n_slices_insertionSortCmpFunc_api_SimEvent = some c_slices_insertionSortCmpFunc_api_SimEvent := by kernel_rfl
theorem ok_slices_symMergeCmpFunc_api_SimEvent : comp Try.prog { mI := [191, 205, 219], loops := [([0, 1, 4, 10, 11], true), ([0, 10, 13], true), ([0, 2, 4, 14, 15], true), ([0, 14, 17], true), ([0, 1, 2, 3, 4, 18, 19, 20, 21, 22], true)] } n_slices_symMergeCmpFunc_api_SimEvent = some c_slices_symMergeCmpFunc_api_SimEvent := by kernel_rfl
theorem ok_slices_rotateCmpFunc_api_SimEvent : comp Try.prog { mI := [31, 46, 57], loops := [([0, 2, 4, 10, 11], true)] } n_slices_rotateCmpFunc_api_SimEvent = some c_slices_rotateCmpFunc_api_SimEvent := by kernel_rfl
theorem ok_slices_swapRangeCmpFunc_api_SimEvent : comp Try.prog { loops := [([0, 1, 2, 3, 10], true)] } n_slices_swapRangeCmpFunc_api_SimEvent = some c_slices_swapRangeCmpFunc_api_SimEvent := by kernel_rfl
theorem okx_slices_Clone_Lapi_SimEvent_api_SimEvent : cloneOf Try.prog n_slices_Clone_Lapi_SimEvent_api_SimEvent = some (6, 64) := by kernel_rfl
theorem oki_slices_Insert_Lapi_SimEvent_api_SimEvent : InsB Try.prog n_slices_Insert_Lapi_SimEvent_api_SimEvent 6 64 43 22 4 := ⟨by kernel_rfl, by kernel_rfl, by kernel_rfl, by kernel_rfl, by kernel_rfl, by kernel_rfl, by kernel_rfl, by kernel_rfl, by kernel_rfl, by kernel_rfl, by kernel_rfl, by kernel_rfl, by kernel_rfl, by kernel_rfl, by kernel_rfl, by kernel_rfl, by kernel_rfl, by kernel_rfl, by kernel_rfl, by kernel_rfl, by kernel_rfl, by kernel_rfl, by kernel_rfl, by kernel_rfl⟩
def codeL : List (Nat × CFunc) := [(n_law22_MailboxMatchesReference, c_law22_MailboxMatchesReference), (n_law22_MailboxOrdered, c_law22_MailboxOrdered), (n_law22_MailboxOneByOne, c_law22_MailboxOneByOne), (n_law22_MailboxDrains, c_law22_MailboxDrains), (n_law22_MailboxCancels, c_law22_MailboxCancels), (n_law22_head, c_law22_head), (n_law03_Great, c_law03_Great), (n_mailbox_Valid, c_mailbox_Valid), (n_ref22_Valid, c_ref22_Valid), (n_law22_split, c_law22_split), (n_mailbox_Insert, c_mailbox_Insert), (n_ref22_Insert, c_ref22_Insert), (n_ref03_SameEvents, c_ref03_SameEvents), (n_mailbox_Take, c_mailbox_Take), (n_ref22_Take, c_ref22_Take), (n_mailbox_Cancel, c_mailbox_Cancel), (n_ref22_Cancel, c_ref22_Cancel), (n_mailbox_Merge, c_mailbox_Merge), (n_ref22_Merge, c_ref22_Merge), (n_ref03_SameEvent, c_ref03_SameEvent), (n_ref22_Distinct, c_ref22_Distinct), (n_ref03_SortEvents, c_ref03_SortEvents), (n_ref03_SameKey, c_ref03_SameKey), (n_evkey_CompareEvents, c_evkey_CompareEvents), (n_ref03_CompareEvents, c_ref03_CompareEvents), (n_slices_BinarySearchFunc_Lapi_SimEvent_api_SimEvent_api_SimEvent, c_slices_BinarySearchFunc_Lapi_SimEvent_api_SimEvent_api_SimEvent), (n_mailbox_Cancel_1, c_mailbox_Cancel_1), (n_slices_IndexFunc_Lapi_SimEvent_api_SimEvent, c_slices_IndexFunc_Lapi_SimEvent_api_SimEvent), (n_slices_Concat_Lapi_SimEvent_api_SimEvent, c_slices_Concat_Lapi_SimEvent_api_SimEvent), (n_evkey_SortEvents, c_evkey_SortEvents), (n_mailbox_merged, c_mailbox_merged), (n_slices_Collect_api_SimEvent, c_slices_Collect_api_SimEvent), (n_ref03_CompareKeys, c_ref03_CompareKeys), (n_cmp_Compare_int, c_cmp_Compare_int), (n_evkey_CompareKeys, c_evkey_CompareKeys), (n_evkey_first, c_evkey_first), (n_ref03_Compare, c_ref03_Compare), (n_slices_Equal_Lint_int, c_slices_Equal_Lint_int), (n_slices_Grow_Lapi_SimEvent_api_SimEvent, c_slices_Grow_Lapi_SimEvent_api_SimEvent), (n_slices_SortStableFunc_Lapi_SimEvent_api_SimEvent, c_slices_SortStableFunc_Lapi_SimEvent_api_SimEvent), (n_mailbox_merged_1, c_mailbox_merged_1), (n_slices_AppendSeq_Lapi_SimEvent_api_SimEvent, c_slices_AppendSeq_Lapi_SimEvent_api_SimEvent), (n_cmp_isNaN_int, c_cmp_isNaN_int), (n_slices_Compare_Lint_int, c_slices_Compare_Lint_int), (n_cmp_Or_int, c_cmp_Or_int), (n_slices_stableCmpFunc_api_SimEvent, c_slices_stableCmpFunc_api_SimEvent), (n_slices_insertionSortCmpFunc_api_SimEvent, c_slices_insertionSortCmpFunc_api_SimEvent), (n_slices_symMergeCmpFunc_api_SimEvent, c_slices_symMergeCmpFunc_api_SimEvent), (n_slices_rotateCmpFunc_api_SimEvent, c_slices_rotateCmpFunc_api_SimEvent), (n_slices_swapRangeCmpFunc_api_SimEvent, c_slices_swapRangeCmpFunc_api_SimEvent)]
def extL : List (Nat × (Nat × Nat)) := [(n_slices_Clone_Lapi_SimEvent_api_SimEvent, (6, 64))]
def insL : List (Nat × (Nat × Nat)) := [(n_slices_Insert_Lapi_SimEvent_api_SimEvent, (6, 64))]
def assoc {α : Type} : List (Nat × α) → Nat → Option α
  | [], _ => none
  | (k, x) :: l, i => if k = i then some x else assoc l i
theorem assoc_mem {α : Type} : ∀ {l : List (Nat × α)} {i : Nat} {x : α}, assoc l i = some x → (i, x) ∈ l
  | [], _, _, h => by simp [assoc] at h
  | (k, y) :: l, i, x, h => by
    simp only [assoc] at h
    split at h
    · rename_i hk; subst hk; cases h; simp
    · exact List.mem_cons_of_mem _ (assoc_mem h)
def T : Tab := { code := assoc codeL, ext := fun k => (assoc extL k).map fun p => cloneF p.1 p.2, ins := assoc insL }
theorem codeL_ok : ∀ x ∈ codeL, ∃ h, comp Try.prog h x.1 = some x.2 := by
  intro x hx
  simp only [codeL, List.mem_cons, List.not_mem_nil, or_false] at hx
  rcases hx with rfl | rfl | rfl | rfl | rfl | rfl | rfl | rfl | rfl | rfl | rfl | rfl | rfl | rfl | rfl | rfl | rfl | rfl | rfl | rfl | rfl | rfl | rfl | rfl | rfl | rfl | rfl | rfl | rfl | rfl | rfl | rfl | rfl | rfl | rfl | rfl | rfl | rfl | rfl | rfl | rfl | rfl | rfl | rfl | rfl | rfl | rfl | rfl | rfl | rfl
  · exact ⟨_, ok_law22_MailboxMatchesReference⟩
  · exact ⟨_, ok_law22_MailboxOrdered⟩
  · exact ⟨_, ok_law22_MailboxOneByOne⟩
  · exact ⟨_, ok_law22_MailboxDrains⟩
  · exact ⟨_, ok_law22_MailboxCancels⟩
  · exact ⟨_, ok_law22_head⟩
  · exact ⟨_, ok_law03_Great⟩
  · exact ⟨_, ok_mailbox_Valid⟩
  · exact ⟨_, ok_ref22_Valid⟩
  · exact ⟨_, ok_law22_split⟩
  · exact ⟨_, ok_mailbox_Insert⟩
  · exact ⟨_, ok_ref22_Insert⟩
  · exact ⟨_, ok_ref03_SameEvents⟩
  · exact ⟨_, ok_mailbox_Take⟩
  · exact ⟨_, ok_ref22_Take⟩
  · exact ⟨_, ok_mailbox_Cancel⟩
  · exact ⟨_, ok_ref22_Cancel⟩
  · exact ⟨_, ok_mailbox_Merge⟩
  · exact ⟨_, ok_ref22_Merge⟩
  · exact ⟨_, ok_ref03_SameEvent⟩
  · exact ⟨_, ok_ref22_Distinct⟩
  · exact ⟨_, ok_ref03_SortEvents⟩
  · exact ⟨_, ok_ref03_SameKey⟩
  · exact ⟨_, ok_evkey_CompareEvents⟩
  · exact ⟨_, ok_ref03_CompareEvents⟩
  · exact ⟨_, ok_slices_BinarySearchFunc_Lapi_SimEvent_api_SimEvent_api_SimEvent⟩
  · exact ⟨_, ok_mailbox_Cancel_1⟩
  · exact ⟨_, ok_slices_IndexFunc_Lapi_SimEvent_api_SimEvent⟩
  · exact ⟨_, ok_slices_Concat_Lapi_SimEvent_api_SimEvent⟩
  · exact ⟨_, ok_evkey_SortEvents⟩
  · exact ⟨_, ok_mailbox_merged⟩
  · exact ⟨_, ok_slices_Collect_api_SimEvent⟩
  · exact ⟨_, ok_ref03_CompareKeys⟩
  · exact ⟨_, ok_cmp_Compare_int⟩
  · exact ⟨_, ok_evkey_CompareKeys⟩
  · exact ⟨_, ok_evkey_first⟩
  · exact ⟨_, ok_ref03_Compare⟩
  · exact ⟨_, ok_slices_Equal_Lint_int⟩
  · exact ⟨_, ok_slices_Grow_Lapi_SimEvent_api_SimEvent⟩
  · exact ⟨_, ok_slices_SortStableFunc_Lapi_SimEvent_api_SimEvent⟩
  · exact ⟨_, ok_mailbox_merged_1⟩
  · exact ⟨_, ok_slices_AppendSeq_Lapi_SimEvent_api_SimEvent⟩
  · exact ⟨_, ok_cmp_isNaN_int⟩
  · exact ⟨_, ok_slices_Compare_Lint_int⟩
  · exact ⟨_, ok_cmp_Or_int⟩
  · exact ⟨_, ok_slices_stableCmpFunc_api_SimEvent⟩
  · exact ⟨_, ok_slices_insertionSortCmpFunc_api_SimEvent⟩
  · exact ⟨_, ok_slices_symMergeCmpFunc_api_SimEvent⟩
  · exact ⟨_, ok_slices_rotateCmpFunc_api_SimEvent⟩
  · exact ⟨_, ok_slices_swapRangeCmpFunc_api_SimEvent⟩
theorem extL_ok : ∀ x ∈ extL, cloneOf Try.prog x.1 = some x.2 := by
  intro x hx
  simp only [extL, List.mem_cons, List.not_mem_nil, or_false] at hx
  rcases hx with rfl
  · exact okx_slices_Clone_Lapi_SimEvent_api_SimEvent
theorem mixed : Try.prog.follows .mixedOrders = true := by kernel_rfl
theorem insL_ok : ∀ x ∈ insL, InsOk Try.prog x.1 (insF x.2.1 x.2.2) := by
  intro x hx
  simp only [insL, List.mem_cons, List.not_mem_nil, or_false] at hx
  rcases hx with rfl
  · exact ins_ok mixed oki_slices_Insert_Lapi_SimEvent_api_SimEvent
theorem T_ok : TabOk Try.prog T where
  code k f h := codeL_ok _ (assoc_mem h)
  ext k F h := by
    simp only [T, Option.map_eq_some_iff] at h
    obtain ⟨p, h1, rfl⟩ := h
    exact clone_ok mixed (extL_ok _ (assoc_mem h1))
  ins k p h := insL_ok (k, p) (assoc_mem h)
  mixed := mixed
theorem code_law22_MailboxMatchesReference : T.code n_law22_MailboxMatchesReference = some c_law22_MailboxMatchesReference := rfl
theorem code_law22_MailboxOrdered : T.code n_law22_MailboxOrdered = some c_law22_MailboxOrdered := rfl
theorem code_law22_MailboxOneByOne : T.code n_law22_MailboxOneByOne = some c_law22_MailboxOneByOne := rfl
theorem code_law22_MailboxDrains : T.code n_law22_MailboxDrains = some c_law22_MailboxDrains := rfl
theorem code_law22_MailboxCancels : T.code n_law22_MailboxCancels = some c_law22_MailboxCancels := rfl
theorem code_law22_head : T.code n_law22_head = some c_law22_head := rfl
theorem code_law03_Great : T.code n_law03_Great = some c_law03_Great := rfl
theorem code_mailbox_Valid : T.code n_mailbox_Valid = some c_mailbox_Valid := rfl
theorem code_ref22_Valid : T.code n_ref22_Valid = some c_ref22_Valid := rfl
theorem code_law22_split : T.code n_law22_split = some c_law22_split := rfl
theorem code_mailbox_Insert : T.code n_mailbox_Insert = some c_mailbox_Insert := rfl
theorem code_ref22_Insert : T.code n_ref22_Insert = some c_ref22_Insert := rfl
theorem code_ref03_SameEvents : T.code n_ref03_SameEvents = some c_ref03_SameEvents := rfl
theorem code_mailbox_Take : T.code n_mailbox_Take = some c_mailbox_Take := rfl
theorem code_ref22_Take : T.code n_ref22_Take = some c_ref22_Take := rfl
theorem code_mailbox_Cancel : T.code n_mailbox_Cancel = some c_mailbox_Cancel := rfl
theorem code_ref22_Cancel : T.code n_ref22_Cancel = some c_ref22_Cancel := rfl
theorem code_mailbox_Merge : T.code n_mailbox_Merge = some c_mailbox_Merge := rfl
theorem code_ref22_Merge : T.code n_ref22_Merge = some c_ref22_Merge := rfl
theorem code_ref03_SameEvent : T.code n_ref03_SameEvent = some c_ref03_SameEvent := rfl
theorem code_ref22_Distinct : T.code n_ref22_Distinct = some c_ref22_Distinct := rfl
theorem code_ref03_SortEvents : T.code n_ref03_SortEvents = some c_ref03_SortEvents := rfl
theorem code_ref03_SameKey : T.code n_ref03_SameKey = some c_ref03_SameKey := rfl
theorem code_evkey_CompareEvents : T.code n_evkey_CompareEvents = some c_evkey_CompareEvents := rfl
theorem code_ref03_CompareEvents : T.code n_ref03_CompareEvents = some c_ref03_CompareEvents := rfl
theorem code_slices_BinarySearchFunc_Lapi_SimEvent_api_SimEvent_api_SimEvent : T.code n_slices_BinarySearchFunc_Lapi_SimEvent_api_SimEvent_api_SimEvent = some c_slices_BinarySearchFunc_Lapi_SimEvent_api_SimEvent_api_SimEvent := rfl
theorem code_mailbox_Cancel_1 : T.code n_mailbox_Cancel_1 = some c_mailbox_Cancel_1 := rfl
theorem code_slices_IndexFunc_Lapi_SimEvent_api_SimEvent : T.code n_slices_IndexFunc_Lapi_SimEvent_api_SimEvent = some c_slices_IndexFunc_Lapi_SimEvent_api_SimEvent := rfl
theorem code_slices_Concat_Lapi_SimEvent_api_SimEvent : T.code n_slices_Concat_Lapi_SimEvent_api_SimEvent = some c_slices_Concat_Lapi_SimEvent_api_SimEvent := rfl
theorem code_evkey_SortEvents : T.code n_evkey_SortEvents = some c_evkey_SortEvents := rfl
theorem code_mailbox_merged : T.code n_mailbox_merged = some c_mailbox_merged := rfl
theorem code_slices_Collect_api_SimEvent : T.code n_slices_Collect_api_SimEvent = some c_slices_Collect_api_SimEvent := rfl
theorem code_ref03_CompareKeys : T.code n_ref03_CompareKeys = some c_ref03_CompareKeys := rfl
theorem code_cmp_Compare_int : T.code n_cmp_Compare_int = some c_cmp_Compare_int := rfl
theorem code_evkey_CompareKeys : T.code n_evkey_CompareKeys = some c_evkey_CompareKeys := rfl
theorem code_evkey_first : T.code n_evkey_first = some c_evkey_first := rfl
theorem code_ref03_Compare : T.code n_ref03_Compare = some c_ref03_Compare := rfl
theorem code_slices_Equal_Lint_int : T.code n_slices_Equal_Lint_int = some c_slices_Equal_Lint_int := rfl
theorem code_slices_Grow_Lapi_SimEvent_api_SimEvent : T.code n_slices_Grow_Lapi_SimEvent_api_SimEvent = some c_slices_Grow_Lapi_SimEvent_api_SimEvent := rfl
theorem code_slices_SortStableFunc_Lapi_SimEvent_api_SimEvent : T.code n_slices_SortStableFunc_Lapi_SimEvent_api_SimEvent = some c_slices_SortStableFunc_Lapi_SimEvent_api_SimEvent := rfl
theorem code_mailbox_merged_1 : T.code n_mailbox_merged_1 = some c_mailbox_merged_1 := rfl
theorem code_slices_AppendSeq_Lapi_SimEvent_api_SimEvent : T.code n_slices_AppendSeq_Lapi_SimEvent_api_SimEvent = some c_slices_AppendSeq_Lapi_SimEvent_api_SimEvent := rfl
theorem code_cmp_isNaN_int : T.code n_cmp_isNaN_int = some c_cmp_isNaN_int := rfl
theorem code_slices_Compare_Lint_int : T.code n_slices_Compare_Lint_int = some c_slices_Compare_Lint_int := rfl
theorem code_cmp_Or_int : T.code n_cmp_Or_int = some c_cmp_Or_int := rfl
theorem code_slices_stableCmpFunc_api_SimEvent : T.code n_slices_stableCmpFunc_api_SimEvent = some c_slices_stableCmpFunc_api_SimEvent := rfl
theorem code_slices_insertionSortCmpFunc_api_SimEvent : T.code n_slices_insertionSortCmpFunc_api_SimEvent = some c_slices_insertionSortCmpFunc_api_SimEvent := rfl
theorem code_slices_symMergeCmpFunc_api_SimEvent : T.code n_slices_symMergeCmpFunc_api_SimEvent = some c_slices_symMergeCmpFunc_api_SimEvent := rfl
theorem code_slices_rotateCmpFunc_api_SimEvent : T.code n_slices_rotateCmpFunc_api_SimEvent = some c_slices_rotateCmpFunc_api_SimEvent := rfl
theorem code_slices_swapRangeCmpFunc_api_SimEvent : T.code n_slices_swapRangeCmpFunc_api_SimEvent = some c_slices_swapRangeCmpFunc_api_SimEvent := rfl
theorem ext_law22_MailboxMatchesReference : T.ext n_law22_MailboxMatchesReference = none ∧ T.ins n_law22_MailboxMatchesReference = none := ⟨rfl, rfl⟩
theorem ext_law22_MailboxOrdered : T.ext n_law22_MailboxOrdered = none ∧ T.ins n_law22_MailboxOrdered = none := ⟨rfl, rfl⟩
theorem ext_law22_MailboxOneByOne : T.ext n_law22_MailboxOneByOne = none ∧ T.ins n_law22_MailboxOneByOne = none := ⟨rfl, rfl⟩
theorem ext_law22_MailboxDrains : T.ext n_law22_MailboxDrains = none ∧ T.ins n_law22_MailboxDrains = none := ⟨rfl, rfl⟩
theorem ext_law22_MailboxCancels : T.ext n_law22_MailboxCancels = none ∧ T.ins n_law22_MailboxCancels = none := ⟨rfl, rfl⟩
theorem ext_law22_head : T.ext n_law22_head = none ∧ T.ins n_law22_head = none := ⟨rfl, rfl⟩
theorem ext_law03_Great : T.ext n_law03_Great = none ∧ T.ins n_law03_Great = none := ⟨rfl, rfl⟩
theorem ext_mailbox_Valid : T.ext n_mailbox_Valid = none ∧ T.ins n_mailbox_Valid = none := ⟨rfl, rfl⟩
theorem ext_ref22_Valid : T.ext n_ref22_Valid = none ∧ T.ins n_ref22_Valid = none := ⟨rfl, rfl⟩
theorem ext_law22_split : T.ext n_law22_split = none ∧ T.ins n_law22_split = none := ⟨rfl, rfl⟩
theorem ext_mailbox_Insert : T.ext n_mailbox_Insert = none ∧ T.ins n_mailbox_Insert = none := ⟨rfl, rfl⟩
theorem ext_ref22_Insert : T.ext n_ref22_Insert = none ∧ T.ins n_ref22_Insert = none := ⟨rfl, rfl⟩
theorem ext_ref03_SameEvents : T.ext n_ref03_SameEvents = none ∧ T.ins n_ref03_SameEvents = none := ⟨rfl, rfl⟩
theorem ext_mailbox_Take : T.ext n_mailbox_Take = none ∧ T.ins n_mailbox_Take = none := ⟨rfl, rfl⟩
theorem ext_ref22_Take : T.ext n_ref22_Take = none ∧ T.ins n_ref22_Take = none := ⟨rfl, rfl⟩
theorem ext_mailbox_Cancel : T.ext n_mailbox_Cancel = none ∧ T.ins n_mailbox_Cancel = none := ⟨rfl, rfl⟩
theorem ext_ref22_Cancel : T.ext n_ref22_Cancel = none ∧ T.ins n_ref22_Cancel = none := ⟨rfl, rfl⟩
theorem ext_mailbox_Merge : T.ext n_mailbox_Merge = none ∧ T.ins n_mailbox_Merge = none := ⟨rfl, rfl⟩
theorem ext_ref22_Merge : T.ext n_ref22_Merge = none ∧ T.ins n_ref22_Merge = none := ⟨rfl, rfl⟩
theorem ext_ref03_SameEvent : T.ext n_ref03_SameEvent = none ∧ T.ins n_ref03_SameEvent = none := ⟨rfl, rfl⟩
theorem ext_ref22_Distinct : T.ext n_ref22_Distinct = none ∧ T.ins n_ref22_Distinct = none := ⟨rfl, rfl⟩
theorem ext_ref03_SortEvents : T.ext n_ref03_SortEvents = none ∧ T.ins n_ref03_SortEvents = none := ⟨rfl, rfl⟩
theorem ext_ref03_SameKey : T.ext n_ref03_SameKey = none ∧ T.ins n_ref03_SameKey = none := ⟨rfl, rfl⟩
theorem ext_evkey_CompareEvents : T.ext n_evkey_CompareEvents = none ∧ T.ins n_evkey_CompareEvents = none := ⟨rfl, rfl⟩
theorem ext_ref03_CompareEvents : T.ext n_ref03_CompareEvents = none ∧ T.ins n_ref03_CompareEvents = none := ⟨rfl, rfl⟩
theorem ext_slices_BinarySearchFunc_Lapi_SimEvent_api_SimEvent_api_SimEvent : T.ext n_slices_BinarySearchFunc_Lapi_SimEvent_api_SimEvent_api_SimEvent = none ∧ T.ins n_slices_BinarySearchFunc_Lapi_SimEvent_api_SimEvent_api_SimEvent = none := ⟨rfl, rfl⟩
theorem ext_mailbox_Cancel_1 : T.ext n_mailbox_Cancel_1 = none ∧ T.ins n_mailbox_Cancel_1 = none := ⟨rfl, rfl⟩
theorem ext_slices_IndexFunc_Lapi_SimEvent_api_SimEvent : T.ext n_slices_IndexFunc_Lapi_SimEvent_api_SimEvent = none ∧ T.ins n_slices_IndexFunc_Lapi_SimEvent_api_SimEvent = none := ⟨rfl, rfl⟩
theorem ext_slices_Concat_Lapi_SimEvent_api_SimEvent : T.ext n_slices_Concat_Lapi_SimEvent_api_SimEvent = none ∧ T.ins n_slices_Concat_Lapi_SimEvent_api_SimEvent = none := ⟨rfl, rfl⟩
theorem ext_evkey_SortEvents : T.ext n_evkey_SortEvents = none ∧ T.ins n_evkey_SortEvents = none := ⟨rfl, rfl⟩
theorem ext_mailbox_merged : T.ext n_mailbox_merged = none ∧ T.ins n_mailbox_merged = none := ⟨rfl, rfl⟩
theorem ext_slices_Collect_api_SimEvent : T.ext n_slices_Collect_api_SimEvent = none ∧ T.ins n_slices_Collect_api_SimEvent = none := ⟨rfl, rfl⟩
theorem ext_ref03_CompareKeys : T.ext n_ref03_CompareKeys = none ∧ T.ins n_ref03_CompareKeys = none := ⟨rfl, rfl⟩
theorem ext_cmp_Compare_int : T.ext n_cmp_Compare_int = none ∧ T.ins n_cmp_Compare_int = none := ⟨rfl, rfl⟩
theorem ext_evkey_CompareKeys : T.ext n_evkey_CompareKeys = none ∧ T.ins n_evkey_CompareKeys = none := ⟨rfl, rfl⟩
theorem ext_evkey_first : T.ext n_evkey_first = none ∧ T.ins n_evkey_first = none := ⟨rfl, rfl⟩
theorem ext_ref03_Compare : T.ext n_ref03_Compare = none ∧ T.ins n_ref03_Compare = none := ⟨rfl, rfl⟩
theorem ext_slices_Equal_Lint_int : T.ext n_slices_Equal_Lint_int = none ∧ T.ins n_slices_Equal_Lint_int = none := ⟨rfl, rfl⟩
theorem ext_slices_Grow_Lapi_SimEvent_api_SimEvent : T.ext n_slices_Grow_Lapi_SimEvent_api_SimEvent = none ∧ T.ins n_slices_Grow_Lapi_SimEvent_api_SimEvent = none := ⟨rfl, rfl⟩
theorem ext_slices_SortStableFunc_Lapi_SimEvent_api_SimEvent : T.ext n_slices_SortStableFunc_Lapi_SimEvent_api_SimEvent = none ∧ T.ins n_slices_SortStableFunc_Lapi_SimEvent_api_SimEvent = none := ⟨rfl, rfl⟩
theorem ext_mailbox_merged_1 : T.ext n_mailbox_merged_1 = none ∧ T.ins n_mailbox_merged_1 = none := ⟨rfl, rfl⟩
theorem ext_slices_AppendSeq_Lapi_SimEvent_api_SimEvent : T.ext n_slices_AppendSeq_Lapi_SimEvent_api_SimEvent = none ∧ T.ins n_slices_AppendSeq_Lapi_SimEvent_api_SimEvent = none := ⟨rfl, rfl⟩
theorem ext_cmp_isNaN_int : T.ext n_cmp_isNaN_int = none ∧ T.ins n_cmp_isNaN_int = none := ⟨rfl, rfl⟩
theorem ext_slices_Compare_Lint_int : T.ext n_slices_Compare_Lint_int = none ∧ T.ins n_slices_Compare_Lint_int = none := ⟨rfl, rfl⟩
theorem ext_cmp_Or_int : T.ext n_cmp_Or_int = none ∧ T.ins n_cmp_Or_int = none := ⟨rfl, rfl⟩
theorem ext_slices_stableCmpFunc_api_SimEvent : T.ext n_slices_stableCmpFunc_api_SimEvent = none ∧ T.ins n_slices_stableCmpFunc_api_SimEvent = none := ⟨rfl, rfl⟩
theorem ext_slices_insertionSortCmpFunc_api_SimEvent : T.ext n_slices_insertionSortCmpFunc_api_SimEvent = none ∧ T.ins n_slices_insertionSortCmpFunc_api_SimEvent = none := ⟨rfl, rfl⟩
theorem ext_slices_symMergeCmpFunc_api_SimEvent : T.ext n_slices_symMergeCmpFunc_api_SimEvent = none ∧ T.ins n_slices_symMergeCmpFunc_api_SimEvent = none := ⟨rfl, rfl⟩
theorem ext_slices_rotateCmpFunc_api_SimEvent : T.ext n_slices_rotateCmpFunc_api_SimEvent = none ∧ T.ins n_slices_rotateCmpFunc_api_SimEvent = none := ⟨rfl, rfl⟩
theorem ext_slices_swapRangeCmpFunc_api_SimEvent : T.ext n_slices_swapRangeCmpFunc_api_SimEvent = none ∧ T.ins n_slices_swapRangeCmpFunc_api_SimEvent = none := ⟨rfl, rfl⟩
theorem ext_slices_Clone_Lapi_SimEvent_api_SimEvent : T.ext n_slices_Clone_Lapi_SimEvent_api_SimEvent = some (cloneF 6 64) := rfl
theorem ins_slices_Insert_Lapi_SimEvent_api_SimEvent : T.ins n_slices_Insert_Lapi_SimEvent_api_SimEvent = some (6, 64) := rfl
theorem exti_slices_Insert_Lapi_SimEvent_api_SimEvent : T.ext n_slices_Insert_Lapi_SimEvent_api_SimEvent = none := rfl
def intC (n : Int) : List AV := [(.v (.int .i64 (n)))]
theorem int_lo (n : Nat) (x : Int) : los n (intC x) = true := rfl
theorem ints_lo (n : Nat) (l : List Int) : loss n (l.map intC) = true := loss_map (int_lo n) l
structure OpI where
  code : Int
  a : Int
  b : Int
  c : Int
  deriving DecidableEq
def OpI.r (x : OpI) : List AV := [(.v (.int .i64 (x.code))), (.v (.int .i64 (x.a))), (.v (.int .i64 (x.b))), (.v (.int .i64 (x.c)))]
structure Start where
  prog : Int
  time : Int
  deriving DecidableEq
def Start.r (x : Start) : List AV := [(.v (.int .i64 (x.prog))), (.v (.int .i64 (x.time)))]
structure Cfg where
  lps : List (List Start)
  progs : List (List OpI)
  look : Int
  fin : Int
  cap : Int
set_option maxRecDepth 10000
structure Pr where
  prog : Int
  pc : Int
  alive : Bool
  timer : List Int
  deriving DecidableEq
def Pr.r (x : Pr) : List AV := [(.v (.int .i64 (x.prog))), (.v (.int .i64 (x.pc))), (.v (.bool (x.alive))), (.fsl ((x.timer).map intC) false)]
structure Evt where
  time : Int
  key : List Int
  lp : Int
  kind : Int
  proc : Int
  arg : Int
  deriving DecidableEq
def Evt.r (x : Evt) : List AV := [(.v (.int .i64 (x.time))), (.fsl ((x.key).map intC) false), (.v (.int .i64 (x.lp))), (.v (.int .i64 (x.kind))), (.v (.int .i64 (x.proc))), (.v (.int .i64 (x.arg)))]
theorem evt_lo (n : Nat) (x : Evt) : los n x.r = true := by simp only [Evt.r, ints_lo, Ev.lo_v, Ev.lo_fsl, Ev.los_nil, Ev.los_cons, Bool.and_self, eq_self]
theorem evt_pl (x : Evt) : x.r.length = 6 ∧ plains x.r = true := ⟨rfl, rfl⟩
theorem evts_lo (n : Nat) (l : List Evt) : loss n (l.map Evt.r) = true := loss_map (evt_lo n) l
theorem evts_ok (l : List Evt) : okRows 6 (l.map Evt.r) = true := okRows_map evt_pl l
structure Lp where
  r0 : Int
  r1 : Int
  procs : List Pr
  sum : Int
  deriving DecidableEq
def Lp.r (x : Lp) : List AV := [(.v (.int .i64 (x.r0))), (.v (.int .i64 (x.r1))), (.fsl ((x.procs).map Pr.r) false), (.v (.int .i64 (x.sum)))]
structure Ex where
  r0 : Int
  r1 : Int
  procs : List Pr
  sum : Int
  ev : Evt
  out : List Evt
  n : Int
  gone : List (List Int)
  over : Bool
structure Ex.Small (x : Ex) : Prop where
  procs : x.procs.length ≤ 1000
  out : x.out.length ≤ 1000
  gone : x.gone.length ≤ 1000
  key : x.ev.key.length ≤ 1000
set_option maxRecDepth 10000
def cmpZ (a b : Int) : Int := if a < b then -1 else if a > b then 1 else 0
theorem ref03_Compare_ev (a b : Int) : callZ (evL T) n_ref03_Compare [(.v (.int .i64 (a))), (.v (.int .i64 (b)))] = some (.v (.int .i64 (cmpZ a b))) := by
  rw [callZ, evL_code ext_ref03_Compare code_ref03_Compare]
  by_cases h1 : a < b
  · simp only [c_ref03_Compare, cmpZ, h1, Ev.runFunc, Ev.exec, Ev.evOpers, Ev.evOper, Ev.item_op, Ev.evOp, Ev.Opnd.ev, Ev.Env.get, Ev.Env.set, Ev.look, Ev.argVars, Ev.bin_lss, Ev.resVals, Ev.resVal, Ev.resOf, Ev.kill, Ev.leave, Ev.storeLo, Ev.lo_v, Ev.frz_lo, ↓Ev.obind, ↓reduceIte, List.length_cons, List.length_nil, List.take_nil, Nat.reduceAdd, Nat.reduceEqDiff, Int.reduceNeg, reduceCtorEq, decide_true, and_self, Nat.zero_add, eq_self]
  by_cases h2 : a > b
  · simp only [c_ref03_Compare, cmpZ, h1, h2, Ev.runFunc, Ev.exec, Ev.evOpers, Ev.evOper, Ev.item_op, Ev.evOp, Ev.Opnd.ev, Ev.Env.get, Ev.Env.set, Ev.look, Ev.argVars, Ev.bin_lss, Ev.bin_gtr, Ev.resVals, Ev.resVal, Ev.resOf, Ev.kill, Ev.leave, Ev.storeLo, Ev.lo_v, Ev.frz_lo, ↓Ev.obind, ↓reduceIte, List.length_cons, List.length_nil, List.take_nil, Nat.reduceAdd, Nat.reduceEqDiff, Int.reduceNeg, reduceCtorEq, decide_true, decide_false, Bool.false_eq_true, and_self, Nat.zero_add, eq_self]
  · simp only [c_ref03_Compare, cmpZ, h1, h2, Ev.runFunc, Ev.exec, Ev.evOpers, Ev.evOper, Ev.item_op, Ev.evOp, Ev.Opnd.ev, Ev.Env.get, Ev.Env.set, Ev.look, Ev.argVars, Ev.bin_lss, Ev.bin_gtr, Ev.resVals, Ev.resVal, Ev.resOf, Ev.kill, Ev.leave, Ev.storeLo, Ev.lo_v, Ev.frz_lo, ↓Ev.obind, ↓reduceIte, List.length_cons, List.length_nil, List.take_nil, Nat.reduceAdd, Nat.reduceEqDiff, Int.reduceNeg, reduceCtorEq, decide_false, Bool.false_eq_true, and_self, Nat.zero_add, eq_self]
def keysZ : List Int → List Int → Int
  | x :: a, y :: b => if x = y then keysZ a b else cmpZ x y
  | [], b => if b.length = 0 then 0 else -1
  | _ :: _, [] => 1
theorem keysZ_find : ∀ a b : List Int, ((a.zip b).all (fun z => decide (z.1 = z.2)) = true → keysZ a b = cmpZ a.length b.length) ∧ ∀ x, (a.zip b).find? (fun z => !decide (z.1 = z.2)) = some x → keysZ a b = cmpZ x.1 x.2
  | [], b => by
    refine ⟨fun _ => ?_, fun x h => by simp at h⟩
    cases b with
    | nil => rfl
    | cons y b =>
      have : ((0 : Nat) : Int) < ((y :: b).length : Int) := by simp only [List.length_cons]; omega
      simp only [keysZ, List.length_cons, Nat.succ_ne_zero, if_false, cmpZ, List.length_nil]
      rw [if_pos (by omega)]
  | x :: a, [] => by
    refine ⟨fun _ => ?_, fun x h => by simp at h⟩
    simp only [keysZ, cmpZ, List.length_cons, List.length_nil]
    rw [if_neg (by omega), if_pos (by omega)]
  | x :: a, y :: b => by
    obtain ⟨h1, h2⟩ := keysZ_find a b
    simp only [List.zip_cons_cons, List.all_cons, List.find?_cons, keysZ, List.length_cons]
    by_cases h : x = y
    · simp only [h, decide_true, Bool.true_and, if_true, Bool.not_true]
      refine ⟨fun k => ?_, h2⟩
      rw [h1 k]; unfold cmpZ
      have e1 : ((a.length : Int) < b.length) ↔ (((a.length + 1 : Nat) : Int) < ((b.length + 1 : Nat) : Int)) := by omega
      have e2 : ((a.length : Int) > b.length) ↔ (((a.length + 1 : Nat) : Int) > ((b.length + 1 : Nat) : Int)) := by omega
      simp only [e1, e2]
    · simp only [h, decide_false, Bool.false_and, if_false, Bool.not_false]
      exact ⟨fun k => by simp at k, fun z k => by simp at k; rw [← k]⟩
theorem cmpZ_zero (a b : Int) : cmpZ a b = 0 ↔ a = b := by
  unfold cmpZ; split
  · constructor <;> intro h <;> omega
  split
  · constructor <;> intro h <;> omega
  · constructor <;> intro h <;> omega
theorem keysZ_zero : ∀ a b : List Int, keysZ a b = 0 ↔ a = b
  | [], [] => by simp [keysZ]
  | [], y :: b => by simp [keysZ]
  | x :: a, [] => by simp [keysZ]
  | x :: a, y :: b => by
    simp only [keysZ, List.cons.injEq]
    split
    next h => rw [keysZ_zero a b]; simp [h]
    next h => rw [cmpZ_zero]; simp [h]
section
variable (a b : List Int) (c d : Bool)
theorem CompareKeys_L (h1 : a.length ≤ 9223372036854775807) (h2 : b.length ≤ 9223372036854775807) :
    ∃ y, itB (exec (evL T) itL none c_ref03_CompareKeys_L1) (Ev.settle [0, 1, 5] true 0) ⟨[(0, (.fsl ((a).map intC) c)), (1, (.fsl ((b).map intC) d)), (5, (.v (.int .i64 (0))))], []⟩ [] = some y ∧
      ((a.zip b).all (fun z => decide (z.1 = z.2)) = true ∧ (y.1 = .exit 0 ∧ y.2.1.marks = [] ∧ y.2.2 = [] ∧ Ev.look y.2.1.vars 0 = some (.fsl ((a).map intC) c) ∧ Ev.look y.2.1.vars 1 = some (.fsl ((b).map intC) d)) ∨
      (a.zip b).all (fun z => decide (z.1 = z.2)) = false ∧ ∃ x, (a.zip b).find? (fun z => !decide (z.1 = z.2)) = some x ∧ (y.1 = .ret ∧ y.2.1.marks = [] ∧ y.2.2 = [] ∧ Ev.look y.2.1.vars 4 = some (.v (.int .i64 (cmpZ x.1 x.2))))) := by
  have hzl : (a.zip b).length = min a.length b.length := List.length_zip
  refine itB_find (a.zip b) (fun i => ⟨[(0, (.fsl ((a).map intC) c)), (1, (.fsl ((b).map intC) d)), (5, (.v (.int .i64 (i))))], []⟩) [] (fun z => decide (z.1 = z.2)) _ (fun x y => _) ?_ ?_ ?_
  · intro i x hi hx hp
    rw [hzl] at hi
    have hi' : (i : Int) < (a.length : Int) := by omega
    have hi2 : (i : Int) < (b.length : Int) := by omega
    have hw : IntKind.i64.wrap ((i : Int) + 1) = ((i + 1 : Nat) : Int) := by rw [w64_small (by omega) (by omega)]; simp
    obtain ⟨hxa, hxb⟩ := List.getElem?_zip_eq_some.1 hx
    have hp' := of_decide_eq_true hp
    simp only [c_ref03_CompareKeys_L1, Int.natCast_nonneg, Int.toNat_natCast, List.getElem?_map, Option.map_some, hxa, hxb, hi', hi2, hw, hp', ints_lo, intC, Ev.exec, Ev.evOpers, Ev.evOper, Ev.item_op, Ev.evOp, Ev.Opnd.ev, Ev.Env.get, Ev.Env.set, Ev.look, Ev.cellsAt, Ev.loadC, Ev.bin_add, Ev.bin_neq, Ev.bin_lss, Ev.settle, Ev.keep, Ev.varsLo, Ev.marksLo, Ev.storeLo, Ev.lo_v, Ev.lo_fsl, List.length_map, ↓Ev.obind, Ev.it1, ↓reduceIte, List.length_cons, List.length_nil, List.take_nil, List.head?_cons, Nat.reduceEqDiff, reduceCtorEq, decide_true, decide_false, Bool.and_self, Bool.false_eq_true, and_self, ne_eq, not_true_eq_false, Nat.zero_add, eq_self]
  · intro i x hi hx hp
    rw [hzl] at hi
    have hi' : (i : Int) < (a.length : Int) := by omega
    have hi2 : (i : Int) < (b.length : Int) := by omega
    obtain ⟨hxa, hxb⟩ := List.getElem?_zip_eq_some.1 hx
    have hp' : ¬ x.1 = x.2 := of_decide_eq_false hp
    have hc := ref03_Compare_ev x.1 x.2
    simp only [c_ref03_CompareKeys_L1, Int.natCast_nonneg, Int.toNat_natCast, List.getElem?_map, Option.map_some, hxa, hxb, hi', hi2, hp', hc, intC, Ev.exec, Ev.evOpers, Ev.evOper, Ev.item_op, Ev.item_P, Ev.evOp, Ev.evs, Ev.Opnd.ev, Ev.Env.get, Ev.Env.set, Ev.look, Ev.cellsAt, Ev.loadC, Ev.bin_neq, Ev.bin_lss, Ev.lo_v, Ev.los_nil, Ev.los_cons, List.length_map, ↓Ev.obind, Ev.it1, ↓reduceIte, List.length_cons, List.length_nil, List.head?_cons, Nat.reduceEqDiff, reduceCtorEq, decide_true, Bool.and_self, Bool.false_eq_true, ne_eq, not_false_eq_true, Nat.zero_add, eq_self]
    exact ⟨_, rfl, rfl, rfl, rfl, rfl⟩
  · rw [hzl]
    by_cases hab : a.length ≤ b.length
    · rw [Nat.min_eq_left hab]
      simp only [c_ref03_CompareKeys_L1, Int.lt_irrefl, Ev.exec, Ev.evOpers, Ev.evOper, Ev.item_op, Ev.evOp, Ev.Opnd.ev, Ev.Env.get, Ev.Env.set, Ev.Env.unset, Ev.look, Ev.bin_lss, List.length_map, ↓Ev.obind, Ev.it1, ↓reduceIte, Nat.reduceEqDiff, reduceCtorEq, decide_false, Bool.false_eq_true, eq_self]
      exact ⟨_, rfl, rfl, rfl, rfl, rfl, rfl⟩
    · rw [Nat.min_eq_right (by omega)]
      have h3 : (b.length : Int) < (a.length : Int) := by omega
      simp only [c_ref03_CompareKeys_L1, Int.lt_irrefl, h3, Ev.exec, Ev.evOpers, Ev.evOper, Ev.item_op, Ev.evOp, Ev.Opnd.ev, Ev.Env.get, Ev.Env.set, Ev.look, Ev.bin_lss, List.length_map, ↓Ev.obind, Ev.it1, ↓reduceIte, Nat.reduceEqDiff, reduceCtorEq, decide_true, decide_false, Bool.false_eq_true, eq_self]
      exact ⟨_, rfl, rfl, rfl, rfl, rfl, rfl⟩
theorem CompareKeys_ev (h1 : a.length ≤ 9223372036854775807) (h2 : b.length ≤ 9223372036854775807) : callZ (evL T) n_ref03_CompareKeys [(.fsl ((a).map intC) c), (.fsl ((b).map intC) d)] = some (.v (.int .i64 (keysZ a b))) := by
  obtain ⟨⟨y, e, σ⟩, k1, k2⟩ := CompareKeys_L a b c d h1 h2
  simp only at k2
  obtain ⟨z1, z2⟩ := keysZ_find a b
  rw [callZ, evL_code ext_ref03_CompareKeys code_ref03_CompareKeys]
  rcases k2 with ⟨k3, rfl, k4, rfl, k5, k6⟩ | ⟨k3, x, k7, rfl, k4, rfl, k5⟩
  · have hc := ref03_Compare_ev a.length b.length
    rw [z1 k3]
    simp only [c_ref03_CompareKeys, k1, k4, k5, k6, hc, ints_lo, Ev.runFunc, Ev.exec, Ev.evOpers, Ev.evOper, Ev.item_op, Ev.item_P, Ev.evOp, Ev.evs, Ev.Opnd.ev, Ev.Env.get, Ev.Env.set, Ev.look, Ev.argVars, Ev.resVals, Ev.resVal, Ev.resOf, Ev.kill, Ev.leave, Ev.settle, Ev.keep, Ev.varsLo, Ev.marksLo, Ev.storeLo, Ev.lo_v, Ev.lo_fsl, Ev.los_nil, Ev.los_cons, Ev.frz_lo, List.length_map, ↓Ev.obind, ↓Ev.itL_itB, ↓reduceIte, List.length_cons, List.length_nil, List.take_nil, Nat.reduceAdd, Nat.reduceEqDiff, reduceCtorEq, Bool.and_self, and_self, Nat.zero_add, eq_self]
  · rw [z2 x k7]
    simp only [c_ref03_CompareKeys, k1, k4, k5, ints_lo, Ev.runFunc, Ev.exec, Ev.evOpers, Ev.evOper, Ev.item_op, Ev.evOp, Ev.Opnd.ev, Ev.Env.get, Ev.Env.set, Ev.look, Ev.argVars, Ev.resVals, Ev.resVal, Ev.resOf, Ev.kill, Ev.leave, Ev.settle, Ev.keep, Ev.varsLo, Ev.marksLo, Ev.storeLo, Ev.lo_v, Ev.lo_fsl, Ev.frz_lo, ↓Ev.obind, ↓Ev.itL_itB, ↓reduceIte, List.length_cons, List.length_nil, List.take_nil, Nat.reduceAdd, Nat.reduceEqDiff, reduceCtorEq, Bool.and_self, and_self, Nat.zero_add, eq_self]
theorem SameKey_ev (h1 : a.length ≤ 9223372036854775807) (h2 : b.length ≤ 9223372036854775807) : callZ (evL T) n_ref03_SameKey [(.fsl ((a).map intC) c), (.fsl ((b).map intC) d)] = some (.v (.bool (decide (a = b)))) := by
  have hk := CompareKeys_ev a b c d h1 h2
  have hz := keysZ_zero a b
  rw [callZ, evL_code ext_ref03_SameKey code_ref03_SameKey]
  by_cases h : a = b
  · have h3 := hz.2 h
    rw [h3] at hk
    simp only [h, decide_true]
    simp only [h] at hk
    simp only [c_ref03_SameKey, hk, ints_lo, Ev.runFunc, Ev.exec, Ev.evOpers, Ev.evOper, Ev.item_op, Ev.item_P, Ev.evOp, Ev.evs, Ev.Opnd.ev, Ev.Env.get, Ev.Env.set, Ev.look, Ev.argVars, Ev.bin_eql, Ev.resVals, Ev.resVal, Ev.resOf, Ev.kill, Ev.leave, Ev.storeLo, Ev.lo_v, Ev.lo_fsl, Ev.los_nil, Ev.los_cons, Ev.frz_lo, ↓Ev.obind, ↓reduceIte, List.length_cons, List.length_nil, List.take_nil, Nat.reduceAdd, Nat.reduceEqDiff, reduceCtorEq, decide_true, Bool.and_self, and_self, Nat.zero_add, eq_self]
  · have h3 : ¬ keysZ a b = 0 := fun k => h (hz.1 k)
    simp only [h, decide_false]
    simp only [c_ref03_SameKey, hk, h3, ints_lo, Ev.runFunc, Ev.exec, Ev.evOpers, Ev.evOper, Ev.item_op, Ev.item_P, Ev.evOp, Ev.evs, Ev.Opnd.ev, Ev.Env.get, Ev.Env.set, Ev.look, Ev.argVars, Ev.bin_eql, Ev.resVals, Ev.resVal, Ev.resOf, Ev.kill, Ev.leave, Ev.storeLo, Ev.lo_v, Ev.lo_fsl, Ev.los_nil, Ev.los_cons, Ev.frz_lo, ↓Ev.obind, ↓reduceIte, List.length_cons, List.length_nil, List.take_nil, Nat.reduceAdd, Nat.reduceEqDiff, reduceCtorEq, decide_false, Bool.and_self, and_self, Nat.zero_add, eq_self]
end
structure Evt.Short (x : Evt) : Prop where
  key : x.key.length ≤ 9223372036854775807
theorem SameEvent_ev (x y : Evt) (hx : x.key.length ≤ 9223372036854775807) (hy : y.key.length ≤ 9223372036854775807) : callZ (evL T) n_ref03_SameEvent [(.agg [(.v (.int .i64 (x.time))), (.fsl ((x.key).map intC) false), (.v (.int .i64 (x.lp))), (.v (.int .i64 (x.kind))), (.v (.int .i64 (x.proc))), (.v (.int .i64 (x.arg)))]), (.agg [(.v (.int .i64 (y.time))), (.fsl ((y.key).map intC) false), (.v (.int .i64 (y.lp))), (.v (.int .i64 (y.kind))), (.v (.int .i64 (y.proc))), (.v (.int .i64 (y.arg)))])] = some (.v (.bool (decide (x = y)))) := by
  obtain ⟨xt, xk, xl, xi, xp, xa⟩ := x
  obtain ⟨yt, yk, yl, yi, yp, ya⟩ := y
  have hk := SameKey_ev xk yk false false hx hy
  simp only [Evt.mk.injEq]
  rw [callZ, evL_code ext_ref03_SameEvent code_ref03_SameEvent]
  by_cases h1 : xt = yt
  case neg => simp only [c_ref03_SameEvent, h1, false_and, decide_false, Ev.runFunc, Ev.exec, Ev.evOpers, Ev.evOper, Ev.item_op, Ev.evOp, Ev.Opnd.ev, Ev.Env.get, Ev.Env.set, Ev.Env.unset, Ev.look, Ev.argVars, Ev.cellsAt, Ev.loadC, Ev.AV.cells, Ev.plains, Ev.AV.plain, Ev.bin_eql, Ev.resVals, Ev.resVal, Ev.resOf, Ev.kill, Ev.leave, Ev.storeLo, Ev.lo_v, Ev.frz_lo, ↓Ev.obind, ↓reduceIte, List.length_cons, List.length_nil, List.take_nil, List.drop_zero, List.head?_cons, Nat.reduceAdd, Nat.reduceEqDiff, reduceCtorEq, decide_false, Bool.and_self, Bool.false_eq_true, and_self, ne_eq, not_false_eq_true, List.cons_ne_nil, Nat.zero_add, eq_self, false_and]
  by_cases h2 : xk = yk
  case neg =>
    simp only [h2, decide_false] at hk
    simp only [c_ref03_SameEvent, h1, h2, hk, ints_lo, false_and, and_false, decide_false, Ev.runFunc, Ev.exec, Ev.evOpers, Ev.evOper, Ev.item_op, Ev.item_P, Ev.evOp, Ev.evs, Ev.Opnd.ev, Ev.Env.get, Ev.Env.set, Ev.Env.unset, Ev.look, Ev.argVars, Ev.cellsAt, Ev.loadC, Ev.AV.cells, Ev.plains, Ev.AV.plain, Ev.bin_eql, Ev.resVals, Ev.resVal, Ev.resOf, Ev.kill, Ev.leave, Ev.storeLo, Ev.lo_v, Ev.lo_fsl, Ev.los_nil, Ev.los_cons, Ev.frz_lo, ↓Ev.obind, ↓reduceIte, List.length_cons, List.length_nil, List.take_nil, List.drop_succ_cons, List.drop_zero, List.head?_cons, Nat.reduceAdd, Nat.reduceEqDiff, reduceCtorEq, decide_true, decide_false, Bool.and_self, Bool.false_eq_true, and_self, ne_eq, not_false_eq_true, List.cons_ne_nil, Nat.zero_add, eq_self, false_and, and_false]
  simp only [h2, decide_true] at hk
  by_cases h3 : xl = yl
  case neg => simp only [c_ref03_SameEvent, h1, h2, h3, hk, ints_lo, false_and, and_false, decide_false, Ev.runFunc, Ev.exec, Ev.evOpers, Ev.evOper, Ev.item_op, Ev.item_P, Ev.evOp, Ev.evs, Ev.Opnd.ev, Ev.Env.get, Ev.Env.set, Ev.Env.unset, Ev.look, Ev.argVars, Ev.cellsAt, Ev.loadC, Ev.AV.cells, Ev.plains, Ev.AV.plain, Ev.bin_eql, Ev.resVals, Ev.resVal, Ev.resOf, Ev.kill, Ev.leave, Ev.storeLo, Ev.lo_v, Ev.lo_fsl, Ev.los_nil, Ev.los_cons, Ev.frz_lo, ↓Ev.obind, ↓reduceIte, List.length_cons, List.length_nil, List.take_nil, List.drop_succ_cons, List.drop_zero, List.head?_cons, Nat.reduceAdd, Nat.reduceEqDiff, reduceCtorEq, decide_true, decide_false, Bool.and_self, Bool.false_eq_true, and_self, ne_eq, not_false_eq_true, List.cons_ne_nil, Nat.zero_add, eq_self, false_and, and_false]
  by_cases h4 : xi = yi
  case neg => simp only [c_ref03_SameEvent, h1, h2, h3, h4, hk, ints_lo, false_and, and_false, decide_false, Ev.runFunc, Ev.exec, Ev.evOpers, Ev.evOper, Ev.item_op, Ev.item_P, Ev.evOp, Ev.evs, Ev.Opnd.ev, Ev.Env.get, Ev.Env.set, Ev.Env.unset, Ev.look, Ev.argVars, Ev.cellsAt, Ev.loadC, Ev.AV.cells, Ev.plains, Ev.AV.plain, Ev.bin_eql, Ev.resVals, Ev.resVal, Ev.resOf, Ev.kill, Ev.leave, Ev.storeLo, Ev.lo_v, Ev.lo_fsl, Ev.los_nil, Ev.los_cons, Ev.frz_lo, ↓Ev.obind, ↓reduceIte, List.length_cons, List.length_nil, List.take_nil, List.drop_succ_cons, List.drop_zero, List.head?_cons, Nat.reduceAdd, Nat.reduceEqDiff, reduceCtorEq, decide_true, decide_false, Bool.and_self, Bool.false_eq_true, and_self, ne_eq, not_false_eq_true, List.cons_ne_nil, Nat.zero_add, eq_self, false_and, and_false]
  by_cases h5 : xp = yp
  case neg => simp only [c_ref03_SameEvent, h1, h2, h3, h4, h5, hk, ints_lo, false_and, and_false, decide_false, Ev.runFunc, Ev.exec, Ev.evOpers, Ev.evOper, Ev.item_op, Ev.item_P, Ev.evOp, Ev.evs, Ev.Opnd.ev, Ev.Env.get, Ev.Env.set, Ev.Env.unset, Ev.look, Ev.argVars, Ev.cellsAt, Ev.loadC, Ev.AV.cells, Ev.plains, Ev.AV.plain, Ev.bin_eql, Ev.resVals, Ev.resVal, Ev.resOf, Ev.kill, Ev.leave, Ev.storeLo, Ev.lo_v, Ev.lo_fsl, Ev.los_nil, Ev.los_cons, Ev.frz_lo, ↓Ev.obind, ↓reduceIte, List.length_cons, List.length_nil, List.take_nil, List.drop_succ_cons, List.drop_zero, List.head?_cons, Nat.reduceAdd, Nat.reduceEqDiff, reduceCtorEq, decide_true, decide_false, Bool.and_self, Bool.false_eq_true, and_self, ne_eq, not_false_eq_true, List.cons_ne_nil, Nat.zero_add, eq_self, false_and, and_false]
  by_cases h6 : xa = ya
  case neg => simp only [c_ref03_SameEvent, h1, h2, h3, h4, h5, h6, hk, ints_lo, and_false, decide_false, Ev.runFunc, Ev.exec, Ev.evOpers, Ev.evOper, Ev.item_op, Ev.item_P, Ev.evOp, Ev.evs, Ev.Opnd.ev, Ev.Env.get, Ev.Env.set, Ev.look, Ev.argVars, Ev.cellsAt, Ev.loadC, Ev.AV.cells, Ev.plains, Ev.AV.plain, Ev.bin_eql, Ev.resVals, Ev.resVal, Ev.resOf, Ev.kill, Ev.leave, Ev.storeLo, Ev.lo_v, Ev.lo_fsl, Ev.los_nil, Ev.los_cons, Ev.frz_lo, ↓Ev.obind, ↓reduceIte, List.length_cons, List.length_nil, List.take_nil, List.drop_succ_cons, List.drop_zero, List.head?_cons, Nat.reduceAdd, Nat.reduceEqDiff, reduceCtorEq, decide_true, decide_false, Bool.and_self, Bool.false_eq_true, and_self, ne_eq, not_false_eq_true, List.cons_ne_nil, Nat.zero_add, eq_self, and_false]
  simp only [c_ref03_SameEvent, h1, h2, h3, h4, h5, h6, hk, ints_lo, and_self, decide_true, Ev.runFunc, Ev.exec, Ev.evOpers, Ev.evOper, Ev.item_op, Ev.item_P, Ev.evOp, Ev.evs, Ev.Opnd.ev, Ev.Env.get, Ev.Env.set, Ev.look, Ev.argVars, Ev.cellsAt, Ev.loadC, Ev.AV.cells, Ev.plains, Ev.AV.plain, Ev.bin_eql, Ev.resVals, Ev.resVal, Ev.resOf, Ev.kill, Ev.leave, Ev.storeLo, Ev.lo_v, Ev.lo_fsl, Ev.los_nil, Ev.los_cons, Ev.frz_lo, ↓Ev.obind, ↓reduceIte, List.length_cons, List.length_nil, List.take_nil, List.drop_succ_cons, List.drop_zero, List.head?_cons, Nat.reduceAdd, Nat.reduceEqDiff, reduceCtorEq, decide_true, Bool.and_self, Bool.false_eq_true, and_self, ne_eq, not_false_eq_true, List.cons_ne_nil, Nat.zero_add, eq_self]
theorem zip_all_eq' {α : Type} [DecidableEq α] : ∀ {a b : List α}, a.length = b.length → ((a.zip b).all (fun z => decide (z.1 = z.2)) = true ↔ a = b)
  | [], [], _ => by simp
  | x :: a, y :: b, h => by
    rw [List.zip_cons_cons, List.all_cons, Bool.and_eq_true, decide_eq_true_eq, zip_all_eq' (a := a) (b := b) (by simpa using h), List.cons.injEq]
  | [], _ :: _, h => by simp at h
  | _ :: _, [], h => by simp at h
section
variable (a b : List Evt) (c d : Bool)
theorem SameEvents_ev (h1 : a.length ≤ 9223372036854775807) (h2 : b.length ≤ 9223372036854775807) (ha : ∀ x ∈ a, x.key.length ≤ 9223372036854775807) (hb : ∀ x ∈ b, x.key.length ≤ 9223372036854775807) :
    callZ (evL T) n_ref03_SameEvents [(.fsl ((a).map Evt.r) c), (.fsl ((b).map Evt.r) d)] = some (.v (.bool (decide (a = b)))) := by
  rw [callZ, evL_code ext_ref03_SameEvents code_ref03_SameEvents]
  by_cases hab : a.length = b.length
  case neg =>
    have hab' : ¬ (a.length : Int) = (b.length : Int) := by omega
    have : ¬ a = b := fun h => hab (by rw [h])
    simp only [c_ref03_SameEvents, hab', this, Ev.runFunc, Ev.exec, Ev.evOpers, Ev.evOper, Ev.item_op, Ev.evOp, Ev.Opnd.ev, Ev.Env.get, Ev.Env.set, Ev.look, Ev.argVars, Ev.bin_neq, Ev.resVals, Ev.resVal, Ev.resOf, Ev.kill, Ev.leave, Ev.storeLo, Ev.lo_v, Ev.frz_lo, List.length_map, ↓Ev.obind, ↓reduceIte, List.length_cons, List.length_nil, List.take_nil, Nat.reduceAdd, Nat.reduceEqDiff, reduceCtorEq, decide_true, decide_false, and_self, ne_eq, not_false_eq_true, Nat.zero_add, eq_self]
  have hab' : (a.length : Int) = (b.length : Int) := by omega
  have hzl : (a.zip b).length = a.length := by rw [List.length_zip, ← hab, Nat.min_self]
  have hL : ∃ y, itB (exec (evL T) itL none c_ref03_SameEvents_L1) (Ev.settle [0, 1, 5] true 0) ⟨[(0, (.fsl ((a).map Evt.r) c)), (1, (.fsl ((b).map Evt.r) d)), (5, (.v (.int .i64 (0))))], []⟩ [] = some y ∧ ((a.zip b).all (fun z => decide (z.1 = z.2)) = true ∧ (y.1 = .exit 0 ∧ y.2.1.marks = [] ∧ y.2.2 = []) ∨
      (a.zip b).all (fun z => decide (z.1 = z.2)) = false ∧ ∃ x, (a.zip b).find? (fun z => !decide (z.1 = z.2)) = some x ∧ (y.1 = .ret ∧ y.2.1.marks = [] ∧ y.2.2 = [] ∧ Ev.look y.2.1.vars 4 = some (.v (.bool (false))))) := by
    refine itB_find (a.zip b) (fun i => ⟨[(0, (.fsl ((a).map Evt.r) c)), (1, (.fsl ((b).map Evt.r) d)), (5, (.v (.int .i64 (i))))], []⟩) [] (fun z => decide (z.1 = z.2)) _ (fun _ y => _) ?_ ?_ ?_
    · intro i x hi hx hp
      rw [hzl] at hi
      have hi' : (i : Int) < (a.length : Int) := by omega
      have hw : IntKind.i64.wrap ((i : Int) + 1) = ((i + 1 : Nat) : Int) := by rw [w64_small (by omega) (by omega)]; simp
      obtain ⟨hxa, hxb⟩ := List.getElem?_zip_eq_some.1 hx
      have hv := SameEvent_ev x.1 x.2 (ha _ (List.mem_of_getElem? hxa)) (hb _ (List.mem_of_getElem? hxb))
      rw [hp] at hv
      simp only [c_ref03_SameEvents_L1, Int.natCast_nonneg, Int.toNat_natCast, List.getElem?_map, Option.map_some, hxa, hxb, hi', hw, hv, evts_lo, ints_lo, Evt.r, Ev.exec, Ev.evOpers, Ev.evOper, Ev.item_op, Ev.item_P, Ev.evOp, Ev.evs, Ev.Opnd.ev, Ev.Env.get, Ev.Env.set, Ev.look, Ev.cellsAt, Ev.loadC, Ev.bin_add, Ev.bin_lss, Ev.settle, Ev.keep, Ev.varsLo, Ev.marksLo, Ev.storeLo, Ev.lo_v, Ev.lo_agg, Ev.lo_fsl, Ev.los_nil, Ev.los_cons, List.length_map, ↓Ev.obind, Ev.it1, ↓reduceIte, List.length_cons, List.length_nil, List.take_succ_cons, List.take_nil, Nat.reduceAdd, Nat.reduceEqDiff, reduceCtorEq, decide_true, Bool.and_self, Bool.not_true, Bool.false_eq_true, and_self, Nat.zero_add, Nat.le_refl, eq_self]
    · intro i x hi hx hp
      rw [hzl] at hi
      have hi' : (i : Int) < (a.length : Int) := by omega
      obtain ⟨hxa, hxb⟩ := List.getElem?_zip_eq_some.1 hx
      have hv := SameEvent_ev x.1 x.2 (ha _ (List.mem_of_getElem? hxa)) (hb _ (List.mem_of_getElem? hxb))
      rw [hp] at hv
      simp only [c_ref03_SameEvents_L1, Int.natCast_nonneg, Int.toNat_natCast, List.getElem?_map, Option.map_some, hxa, hxb, hi', hv, ints_lo, Evt.r, Ev.exec, Ev.evOpers, Ev.evOper, Ev.item_op, Ev.item_P, Ev.evOp, Ev.evs, Ev.Opnd.ev, Ev.Env.get, Ev.Env.set, Ev.look, Ev.cellsAt, Ev.loadC, Ev.bin_lss, Ev.lo_v, Ev.lo_agg, Ev.lo_fsl, Ev.los_nil, Ev.los_cons, List.length_map, ↓Ev.obind, Ev.it1, ↓reduceIte, List.length_cons, List.length_nil, List.take_succ_cons, List.take_nil, Nat.reduceAdd, Nat.reduceEqDiff, reduceCtorEq, decide_true, Bool.and_self, Bool.not_false, Nat.zero_add, Nat.le_refl, eq_self]
      exact ⟨_, rfl, rfl, rfl, rfl, rfl⟩
    · rw [hzl]
      simp only [c_ref03_SameEvents_L1, Int.lt_irrefl, Ev.exec, Ev.evOpers, Ev.evOper, Ev.item_op, Ev.evOp, Ev.Opnd.ev, Ev.Env.get, Ev.Env.set, Ev.look, Ev.bin_lss, List.length_map, ↓Ev.obind, Ev.it1, ↓reduceIte, Nat.reduceEqDiff, reduceCtorEq, decide_false, Bool.false_eq_true, eq_self]
      exact ⟨_, rfl, rfl, rfl, rfl⟩
  obtain ⟨⟨y, e, σ⟩, k1, k2⟩ := hL
  simp only at k2
  rcases k2 with ⟨k3, rfl, k4, rfl⟩ | ⟨k3, x, _, rfl, k4, rfl, k5⟩
  · have : a = b := (zip_all_eq' hab).1 k3
    subst this
    simp only [c_ref03_SameEvents, k1, k4, evts_lo, Ev.runFunc, Ev.exec, Ev.evOpers, Ev.evOper, Ev.item_op, Ev.evOp, Ev.Opnd.ev, Ev.Env.get, Ev.Env.set, Ev.look, Ev.argVars, Ev.bin_neq, Ev.resVals, Ev.resVal, Ev.resOf, Ev.kill, Ev.leave, Ev.settle, Ev.keep, Ev.varsLo, Ev.marksLo, Ev.storeLo, Ev.lo_v, Ev.lo_fsl, Ev.frz_lo, List.length_map, ↓Ev.obind, ↓Ev.itL_itB, ↓reduceIte, List.length_cons, List.length_nil, List.take_nil, Nat.reduceAdd, Nat.reduceEqDiff, reduceCtorEq, decide_true, decide_false, Bool.and_self, Bool.false_eq_true, and_self, ne_eq, not_true_eq_false, Nat.zero_add, eq_self]
  · have : ¬ a = b := fun h => by rw [(zip_all_eq' hab).2 h] at k3; cases k3
    simp only [this]
    simp only [c_ref03_SameEvents, hab', k1, k4, k5, evts_lo, Ev.runFunc, Ev.exec, Ev.evOpers, Ev.evOper, Ev.item_op, Ev.evOp, Ev.Opnd.ev, Ev.Env.get, Ev.Env.set, Ev.look, Ev.argVars, Ev.bin_neq, Ev.resVals, Ev.resVal, Ev.resOf, Ev.kill, Ev.leave, Ev.settle, Ev.keep, Ev.varsLo, Ev.marksLo, Ev.storeLo, Ev.lo_v, Ev.lo_fsl, Ev.frz_lo, List.length_map, ↓Ev.obind, ↓Ev.itL_itB, ↓reduceIte, List.length_cons, List.length_nil, List.take_nil, Nat.reduceAdd, Nat.reduceEqDiff, reduceCtorEq, decide_false, Bool.and_self, Bool.false_eq_true, and_self, ne_eq, not_true_eq_false, Nat.zero_add, eq_self]
end
set_option maxRecDepth 10000
theorem cmp_isNaN_ev (a : Int) : callZ (evL T) n_cmp_isNaN_int [(.v (.int .i64 (a)))] = some (.v (.bool (false))) := by
  rw [callZ, evL_code ext_cmp_isNaN_int code_cmp_isNaN_int]
  simp only [c_cmp_isNaN_int, Ev.runFunc, Ev.exec, Ev.evOpers, Ev.evOper, Ev.item_op, Ev.evOp, Ev.Opnd.ev, Ev.Env.get, Ev.Env.set, Ev.look, Ev.argVars, Ev.bin_neq, Ev.resVals, Ev.resVal, Ev.resOf, Ev.kill, Ev.leave, Ev.storeLo, Ev.lo_v, Ev.frz_lo, ↓Ev.obind, ↓reduceIte, List.length_cons, List.length_nil, List.take_nil, Nat.reduceEqDiff, reduceCtorEq, decide_false, and_self, ne_eq, not_true_eq_false, Nat.zero_add, eq_self]
theorem cmp_Compare_ev (a b : Int) : callZ (evL T) n_cmp_Compare_int [(.v (.int .i64 (a))), (.v (.int .i64 (b)))] = some (.v (.int .i64 (cmpZ a b))) := by
  have h0 := cmp_isNaN_ev
  rw [callZ, evL_code ext_cmp_Compare_int code_cmp_Compare_int]
  by_cases h1 : a < b
  · simp only [c_cmp_Compare_int, cmpZ, h0, h1, Ev.runFunc, Ev.exec, Ev.evOpers, Ev.evOper, Ev.item_op, Ev.item_P, Ev.evOp, Ev.evs, Ev.Opnd.ev, Ev.Env.get, Ev.Env.set, Ev.look, Ev.argVars, Ev.bin_lss, Ev.resVals, Ev.resVal, Ev.resOf, Ev.kill, Ev.leave, Ev.storeLo, Ev.lo_v, Ev.los_nil, Ev.los_cons, Ev.frz_lo, ↓Ev.obind, ↓reduceIte, List.length_cons, List.length_nil, List.take_nil, Nat.reduceAdd, Nat.reduceEqDiff, Int.reduceNeg, reduceCtorEq, decide_true, Bool.and_self, Bool.false_eq_true, and_self, Nat.zero_add, eq_self]
  by_cases h2 : a > b
  · simp only [c_cmp_Compare_int, cmpZ, h0, h1, h2, Ev.runFunc, Ev.exec, Ev.evOpers, Ev.evOper, Ev.item_op, Ev.item_P, Ev.evOp, Ev.evs, Ev.Opnd.ev, Ev.Env.get, Ev.Env.set, Ev.look, Ev.argVars, Ev.bin_lss, Ev.bin_gtr, Ev.resVals, Ev.resVal, Ev.resOf, Ev.kill, Ev.leave, Ev.storeLo, Ev.lo_v, Ev.los_nil, Ev.los_cons, Ev.frz_lo, ↓Ev.obind, ↓reduceIte, List.length_cons, List.length_nil, List.take_nil, Nat.reduceAdd, Nat.reduceEqDiff, Int.reduceNeg, reduceCtorEq, decide_true, decide_false, Bool.and_self, Bool.false_eq_true, and_self, Nat.zero_add, eq_self]
  · simp only [c_cmp_Compare_int, cmpZ, h0, h1, h2, Ev.runFunc, Ev.exec, Ev.evOpers, Ev.evOper, Ev.item_op, Ev.item_P, Ev.evOp, Ev.evs, Ev.Opnd.ev, Ev.Env.get, Ev.Env.set, Ev.look, Ev.argVars, Ev.bin_lss, Ev.bin_gtr, Ev.resVals, Ev.resVal, Ev.resOf, Ev.kill, Ev.leave, Ev.storeLo, Ev.lo_v, Ev.los_nil, Ev.los_cons, Ev.frz_lo, ↓Ev.obind, ↓reduceIte, List.length_cons, List.length_nil, List.take_nil, Nat.reduceAdd, Nat.reduceEqDiff, Int.reduceNeg, reduceCtorEq, decide_false, Bool.and_self, Bool.false_eq_true, and_self, Nat.zero_add, eq_self]
theorem cmp_Or_ev (x z : Int) (c : Bool) : callZ (evL T) n_cmp_Or_int [(.fsl (([x, z]).map intC) c)] = some (.v (.int .i64 (if x = 0 then z else x))) := by
  have hL : ∃ y, itB (exec (evL T) itL none c_cmp_Or_int_L1) (Ev.settle [3, 6, 7, 8] true 0) ⟨[(3, (.v (.int .i64 (0)))), (6, (.fsl (([x, z]).map intC) c)), (7, (.v (.int .i64 (2)))), (8, (.v (.int .i64 (0))))], []⟩ [] = some y ∧ ([x, z].all (fun v => decide (v = 0)) = true ∧ (y.1 = .exit 0 ∧ y.2.1.marks = [] ∧ y.2.2 = [] ∧ Ev.look y.2.1.vars 3 = some (.v (.int .i64 (0)))) ∨
      [x, z].all (fun v => decide (v = 0)) = false ∧ ∃ v, [x, z].find? (fun v => !decide (v = 0)) = some v ∧ (y.1 = .ret ∧ y.2.1.marks = [] ∧ y.2.2 = [] ∧ Ev.look y.2.1.vars 2 = some (.v (.int .i64 (v))))) := by
    refine itB_find [x, z] (fun i => ⟨[(3, (.v (.int .i64 (0)))), (6, (.fsl (([x, z]).map intC) c)), (7, (.v (.int .i64 (2)))), (8, (.v (.int .i64 (i))))], []⟩) [] (fun v => decide (v = 0)) _ (fun v y => _) ?_ ?_ ?_
    · intro i v hi hv hp
      have hi2 : (i : Int) < 2 := by simp at hi; omega
      have hw : IntKind.i64.wrap ((i : Int) + 1) = ((i + 1 : Nat) : Int) := by rw [w64_small (by omega) (by omega)]; simp
      have hp' := of_decide_eq_true hp
      subst hp'
      have hl := ints_lo 0 [x, z]
      generalize [x, z] = l at hv hl ⊢
      simp only [c_cmp_Or_int_L1, Int.natCast_nonneg, Int.toNat_natCast, List.getElem?_map, Option.map_some, hv, hl, hi2, hw, intC, Ev.exec, Ev.evOpers, Ev.evOper, Ev.item_op, Ev.evOp, Ev.Opnd.ev, Ev.Env.get, Ev.Env.set, Ev.look, Ev.cellsAt, Ev.loadC, Ev.bin_add, Ev.bin_neq, Ev.bin_lss, Ev.settle, Ev.keep, Ev.varsLo, Ev.marksLo, Ev.storeLo, Ev.lo_v, Ev.lo_fsl, ↓Ev.obind, Ev.it1, ↓reduceIte, List.length_cons, List.length_nil, List.take_nil, List.head?_cons, Nat.reduceEqDiff, decide_true, decide_false, Bool.and_self, Bool.false_eq_true, and_self, ne_eq, not_true_eq_false, Nat.zero_add, eq_self]
    · intro i v hi hv hp
      have hi2 : (i : Int) < 2 := by simp at hi; omega
      have hp' : ¬ v = 0 := of_decide_eq_false hp
      have hl := ints_lo 0 [x, z]
      generalize [x, z] = l at hv hl ⊢
      simp only [c_cmp_Or_int_L1, Int.natCast_nonneg, Int.toNat_natCast, List.getElem?_map, Option.map_some, hv, hi2, hp', intC, Ev.exec, Ev.evOpers, Ev.evOper, Ev.item_op, Ev.evOp, Ev.Opnd.ev, Ev.Env.get, Ev.Env.set, Ev.look, Ev.cellsAt, Ev.loadC, Ev.bin_neq, Ev.bin_lss, ↓Ev.obind, Ev.it1, ↓reduceIte, List.length_cons, List.length_nil, List.head?_cons, Nat.reduceEqDiff, decide_true, Bool.false_eq_true, ne_eq, not_false_eq_true, Nat.zero_add, eq_self]
      exact ⟨_, rfl, rfl, rfl, rfl, rfl⟩
    · have hl := ints_lo 0 [x, z]
      rw [show ([x, z] : List Int).length = 2 from rfl]
      simp only [c_cmp_Or_int_L1, Int.lt_irrefl, Int.cast_ofNat_Int, Ev.exec, Ev.evOpers, Ev.evOper, Ev.item_op, Ev.evOp, Ev.Opnd.ev, Ev.Env.get, Ev.Env.set, Ev.look, Ev.bin_lss, ↓Ev.obind, Ev.it1, ↓reduceIte, Nat.reduceEqDiff, Int.cast_ofNat_Int, decide_false, Bool.false_eq_true, eq_self]
      exact ⟨_, rfl, rfl, rfl, rfl, rfl⟩
  obtain ⟨⟨y, e, σ⟩, k1, k2⟩ := hL
  simp only at k2
  have hl := ints_lo 0 [x, z]
  have hn : ([x, z].map intC).length = 2 := rfl
  rw [callZ, evL_code ext_cmp_Or_int code_cmp_Or_int]
  rcases k2 with ⟨k3, rfl, k4, rfl, k5⟩ | ⟨k3, v, k6, rfl, k4, rfl, k5⟩
  · have h1 : x = 0 ∧ z = 0 := by simpa using k3
    have h2 : (if x = 0 then z else x) = 0 := by rw [if_pos h1.1, h1.2]
    rw [h2]
    generalize [x, z].map intC = l at k1 hl hn ⊢
    simp only [c_cmp_Or_int, hn, Int.cast_ofNat_Int, k1, k4, k5, hl, Ev.runFunc, Ev.exec, Ev.evOpers, Ev.evOper, Ev.item_op, Ev.evOp, Ev.Opnd.ev, Ev.Env.get, Ev.Env.set, Ev.look, Ev.argVars, Ev.resVals, Ev.resVal, Ev.resOf, Ev.kill, Ev.leave, Ev.settle, Ev.keep, Ev.varsLo, Ev.marksLo, Ev.storeLo, Ev.lo_v, Ev.lo_fsl, Ev.frz_lo, ↓Ev.obind, ↓Ev.itL_itB, ↓reduceIte, List.length_cons, List.length_nil, List.take_nil, Nat.reduceEqDiff, Int.cast_ofNat_Int, reduceCtorEq, Bool.and_self, and_self, Nat.zero_add, eq_self]
  · have h1 : (if x = 0 then z else x) = v := by
      rw [List.find?_cons] at k6
      by_cases hx : x = 0
      · rw [if_pos hx]; simp [hx] at k6; exact k6.2
      · rw [if_neg hx]; simp [hx] at k6; exact k6
    rw [h1]
    generalize [x, z].map intC = l at k1 hl hn ⊢
    simp only [c_cmp_Or_int, hn, Int.cast_ofNat_Int, k1, k4, k5, hl, Ev.runFunc, Ev.exec, Ev.evOpers, Ev.evOper, Ev.item_op, Ev.evOp, Ev.Opnd.ev, Ev.Env.get, Ev.Env.set, Ev.look, Ev.argVars, Ev.resVals, Ev.resVal, Ev.resOf, Ev.kill, Ev.leave, Ev.settle, Ev.keep, Ev.varsLo, Ev.marksLo, Ev.storeLo, Ev.lo_v, Ev.lo_fsl, Ev.frz_lo, ↓Ev.obind, ↓Ev.itL_itB, ↓reduceIte, List.length_cons, List.length_nil, List.take_nil, Nat.reduceEqDiff, Int.cast_ofNat_Int, reduceCtorEq, Bool.and_self, and_self, Nat.zero_add, eq_self]
theorem evkey_first_ev (x z : Int) (c : Bool) : callZ (evL T) n_evkey_first [(.fsl (([x, z]).map intC) c)] = some (.v (.int .i64 (if x = 0 then z else x))) := by
  have h := cmp_Or_ev x z c
  have hl := ints_lo 0 [x, z]
  generalize [x, z].map intC = l at h hl ⊢
  rw [callZ, evL_code ext_evkey_first code_evkey_first]
  simp only [c_evkey_first, h, hl, Ev.runFunc, Ev.exec, Ev.evOpers, Ev.evOper, Ev.item_op, Ev.item_P, Ev.evOp, Ev.evs, Ev.Opnd.ev, Ev.Env.get, Ev.Env.set, Ev.look, Ev.argVars, Ev.resVals, Ev.resVal, Ev.resOf, Ev.kill, Ev.leave, Ev.storeLo, Ev.lo_v, Ev.lo_fsl, Ev.los_nil, Ev.los_cons, Ev.frz_lo, ↓Ev.obind, ↓reduceIte, List.length_cons, List.length_nil, List.take_nil, reduceCtorEq, Bool.and_self, and_self, Nat.zero_add, eq_self]
section
variable (a b : List Int) (c d : Bool)
theorem slices_Compare_L (h1 : a.length ≤ 9223372036854775807) (h2 : b.length ≤ 9223372036854775807) :
    ∃ y, itB (exec (evL T) itL none c_slices_Compare_Lint_int_L1) (Ev.settle [0, 1, 9, 10, 11] true 0) ⟨[(0, (.fsl ((a).map intC) c)), (1, (.fsl ((b).map intC) d)), (9, (.fsl ((a).map intC) c)), (10, (.v (.int .i64 (a.length)))), (11, (.v (.int .i64 (0))))], []⟩ [] = some y ∧
      ((a.zip b).all (fun z => decide (z.1 = z.2)) = true ∧ (a.length ≤ b.length ∧ y.1 = .exit 0 ∧ y.2.1.marks = [] ∧ y.2.2 = [] ∧ Ev.look y.2.1.vars 0 = some (.fsl ((a).map intC) c) ∧ Ev.look y.2.1.vars 1 = some (.fsl ((b).map intC) d) ∨ b.length < a.length ∧ y.1 = .ret ∧ y.2.1.marks = [] ∧ y.2.2 = [] ∧ Ev.look y.2.1.vars 4 = some (.v (.int .i64 (1)))) ∨
      (a.zip b).all (fun z => decide (z.1 = z.2)) = false ∧ ∃ x, (a.zip b).find? (fun z => !decide (z.1 = z.2)) = some x ∧ (y.1 = .ret ∧ y.2.1.marks = [] ∧ y.2.2 = [] ∧ Ev.look y.2.1.vars 4 = some (.v (.int .i64 (cmpZ x.1 x.2))))) := by
  have hzl : (a.zip b).length = min a.length b.length := List.length_zip
  refine itB_find (a.zip b) (fun i => ⟨[(0, (.fsl ((a).map intC) c)), (1, (.fsl ((b).map intC) d)), (9, (.fsl ((a).map intC) c)), (10, (.v (.int .i64 (a.length)))), (11, (.v (.int .i64 (i))))], []⟩) [] (fun z => decide (z.1 = z.2)) _ (fun x y => _) ?_ ?_ ?_
  · intro i x hi hx hp
    rw [hzl] at hi
    have hi' : (i : Int) < (a.length : Int) := by omega
    have hi2 : ¬ (i : Int) ≥ (b.length : Int) := by omega
    have hw : IntKind.i64.wrap ((i : Int) + 1) = ((i + 1 : Nat) : Int) := by rw [w64_small (by omega) (by omega)]; simp
    obtain ⟨hxa, hxb⟩ := List.getElem?_zip_eq_some.1 hx
    have hp' := of_decide_eq_true hp
    have hc := cmp_Compare_ev x.1 x.2
    rw [(cmpZ_zero x.1 x.2).2 hp'] at hc
    simp only [c_slices_Compare_Lint_int_L1, Int.natCast_nonneg, Int.toNat_natCast, List.getElem?_map, Option.map_some, hxa, hxb, hi', hi2, hw, hc, ints_lo, intC, Ev.exec, Ev.evOpers, Ev.evOper, Ev.item_op, Ev.item_P, Ev.evOp, Ev.evs, Ev.Opnd.ev, Ev.Env.get, Ev.Env.set, Ev.look, Ev.cellsAt, Ev.loadC, Ev.bin_add, Ev.bin_neq, Ev.bin_lss, Ev.bin_geq, Ev.settle, Ev.keep, Ev.varsLo, Ev.marksLo, Ev.storeLo, Ev.lo_v, Ev.lo_fsl, Ev.los_nil, Ev.los_cons, List.length_map, ↓Ev.obind, Ev.it1, ↓reduceIte, List.length_cons, List.length_nil, List.take_nil, List.head?_cons, Nat.reduceEqDiff, reduceCtorEq, decide_true, decide_false, Bool.and_self, Bool.false_eq_true, and_self, ne_eq, not_true_eq_false, Nat.zero_add, eq_self]
  · intro i x hi hx hp
    rw [hzl] at hi
    have hi' : (i : Int) < (a.length : Int) := by omega
    have hi2 : ¬ (i : Int) ≥ (b.length : Int) := by omega
    obtain ⟨hxa, hxb⟩ := List.getElem?_zip_eq_some.1 hx
    have hp' : ¬ x.1 = x.2 := of_decide_eq_false hp
    have hc := cmp_Compare_ev x.1 x.2
    have hz : ¬ cmpZ x.1 x.2 = 0 := fun h => hp' ((cmpZ_zero _ _).1 h)
    simp only [c_slices_Compare_Lint_int_L1, Int.natCast_nonneg, Int.toNat_natCast, List.getElem?_map, Option.map_some, hxa, hxb, hi', hi2, hz, hc, intC, Ev.exec, Ev.evOpers, Ev.evOper, Ev.item_op, Ev.item_P, Ev.evOp, Ev.evs, Ev.Opnd.ev, Ev.Env.get, Ev.Env.set, Ev.look, Ev.cellsAt, Ev.loadC, Ev.bin_neq, Ev.bin_lss, Ev.bin_geq, Ev.lo_v, Ev.los_nil, Ev.los_cons, List.length_map, ↓Ev.obind, Ev.it1, ↓reduceIte, List.length_cons, List.length_nil, List.head?_cons, Nat.reduceEqDiff, reduceCtorEq, decide_true, decide_false, Bool.and_self, Bool.false_eq_true, ne_eq, not_false_eq_true, Nat.zero_add, eq_self]
    exact ⟨_, rfl, rfl, rfl, rfl, rfl⟩
  · rw [hzl]
    by_cases hab : a.length ≤ b.length
    · rw [Nat.min_eq_left hab]
      simp only [c_slices_Compare_Lint_int_L1, Int.lt_irrefl, Ev.exec, Ev.evOpers, Ev.evOper, Ev.item_op, Ev.evOp, Ev.Opnd.ev, Ev.Env.get, Ev.Env.set, Ev.look, Ev.bin_lss, ↓Ev.obind, Ev.it1, ↓reduceIte, Nat.reduceEqDiff, reduceCtorEq, decide_false, Bool.false_eq_true, eq_self]
      exact ⟨_, rfl, .inl ⟨hab, rfl, rfl, rfl, rfl, rfl⟩⟩
    · rw [Nat.min_eq_right (by omega)]
      have h3 : (b.length : Int) < (a.length : Int) := by omega
      obtain ⟨x, hx⟩ : ∃ x, a[b.length]? = some x := ⟨_, List.getElem?_eq_getElem (by omega)⟩
      have h4 : (b.length : Int) ≥ (b.length : Int) := Int.le_refl _
      simp only [c_slices_Compare_Lint_int_L1, Int.natCast_nonneg, Int.toNat_natCast, List.getElem?_map, Option.map_some, h3, h4, hx, intC, Ev.exec, Ev.evOpers, Ev.evOper, Ev.item_op, Ev.evOp, Ev.Opnd.ev, Ev.Env.get, Ev.Env.set, Ev.look, Ev.cellsAt, Ev.loadC, Ev.bin_lss, Ev.bin_geq, List.length_map, ↓Ev.obind, Ev.it1, ↓reduceIte, List.length_cons, List.length_nil, List.head?_cons, Nat.reduceEqDiff, reduceCtorEq, decide_true, Bool.false_eq_true, Nat.zero_add, eq_self]
      exact ⟨_, rfl, .inr ⟨by omega, rfl, rfl, rfl, rfl⟩⟩
theorem slices_Compare_ev (h1 : a.length ≤ 9223372036854775807) (h2 : b.length ≤ 9223372036854775807) : callZ (evL T) n_slices_Compare_Lint_int [(.fsl ((a).map intC) c), (.fsl ((b).map intC) d)] = some (.v (.int .i64 (keysZ a b))) := by
  obtain ⟨⟨y, e, σ⟩, k1, k2⟩ := slices_Compare_L a b c d h1 h2
  simp only at k2
  obtain ⟨z1, z2⟩ := keysZ_find a b
  rw [callZ, evL_code ext_slices_Compare_Lint_int code_slices_Compare_Lint_int]
  rcases k2 with ⟨k3, ⟨k7, rfl, k4, rfl, k5, k6⟩ | ⟨k7, rfl, k4, rfl, k5⟩⟩ | ⟨k3, x, k7, rfl, k4, rfl, k5⟩
  · rw [z1 k3]
    by_cases hl : (a.length : Int) < (b.length : Int)
    · simp only [c_slices_Compare_Lint_int, k1, k4, k5, k6, hl, cmpZ, ints_lo, Ev.runFunc, Ev.exec, Ev.evOpers, Ev.evOper, Ev.item_op, Ev.evOp, Ev.Opnd.ev, Ev.Env.get, Ev.Env.set, Ev.look, Ev.argVars, Ev.bin_lss, Ev.resVals, Ev.resVal, Ev.resOf, Ev.kill, Ev.leave, Ev.settle, Ev.keep, Ev.varsLo, Ev.marksLo, Ev.storeLo, Ev.lo_v, Ev.lo_fsl, Ev.frz_lo, List.length_map, ↓Ev.obind, ↓Ev.itL_itB, ↓reduceIte, List.length_cons, List.length_nil, List.take_nil, Nat.reduceAdd, Nat.reduceEqDiff, Int.reduceNeg, reduceCtorEq, decide_true, Bool.and_self, and_self, Nat.zero_add, eq_self]
    · have hg : ¬ (a.length : Int) > (b.length : Int) := by omega
      simp only [c_slices_Compare_Lint_int, k1, k4, k5, k6, hl, hg, cmpZ, ints_lo, Ev.runFunc, Ev.exec, Ev.evOpers, Ev.evOper, Ev.item_op, Ev.evOp, Ev.Opnd.ev, Ev.Env.get, Ev.Env.set, Ev.look, Ev.argVars, Ev.bin_lss, Ev.resVals, Ev.resVal, Ev.resOf, Ev.kill, Ev.leave, Ev.settle, Ev.keep, Ev.varsLo, Ev.marksLo, Ev.storeLo, Ev.lo_v, Ev.lo_fsl, Ev.frz_lo, List.length_map, ↓Ev.obind, ↓Ev.itL_itB, ↓reduceIte, List.length_cons, List.length_nil, List.take_nil, Nat.reduceAdd, Nat.reduceEqDiff, Int.reduceNeg, reduceCtorEq, decide_false, Bool.and_self, Bool.false_eq_true, and_self, Nat.zero_add, eq_self]
  · have hl : ¬ (a.length : Int) < (b.length : Int) := by omega
    have hg : (a.length : Int) > (b.length : Int) := by omega
    rw [z1 k3]
    simp only [c_slices_Compare_Lint_int, k1, k4, k5, hl, hg, cmpZ, ints_lo, Ev.runFunc, Ev.exec, Ev.evOpers, Ev.evOper, Ev.item_op, Ev.evOp, Ev.Opnd.ev, Ev.Env.get, Ev.Env.set, Ev.look, Ev.argVars, Ev.resVals, Ev.resVal, Ev.resOf, Ev.kill, Ev.leave, Ev.settle, Ev.keep, Ev.varsLo, Ev.marksLo, Ev.storeLo, Ev.lo_v, Ev.lo_fsl, Ev.frz_lo, List.length_map, ↓Ev.obind, ↓Ev.itL_itB, ↓reduceIte, List.length_cons, List.length_nil, List.take_nil, Nat.reduceAdd, Nat.reduceEqDiff, Int.reduceNeg, reduceCtorEq, Bool.and_self, and_self, Nat.zero_add, eq_self]
  · rw [z2 x k7]
    simp only [c_slices_Compare_Lint_int, k1, k4, k5, ints_lo, Ev.runFunc, Ev.exec, Ev.evOpers, Ev.evOper, Ev.item_op, Ev.evOp, Ev.Opnd.ev, Ev.Env.get, Ev.Env.set, Ev.look, Ev.argVars, Ev.resVals, Ev.resVal, Ev.resOf, Ev.kill, Ev.leave, Ev.settle, Ev.keep, Ev.varsLo, Ev.marksLo, Ev.storeLo, Ev.lo_v, Ev.lo_fsl, Ev.frz_lo, List.length_map, ↓Ev.obind, ↓Ev.itL_itB, ↓reduceIte, List.length_cons, List.length_nil, List.take_nil, Nat.reduceAdd, Nat.reduceEqDiff, Int.reduceNeg, reduceCtorEq, Bool.and_self, and_self, Nat.zero_add, eq_self]
theorem evkey_CompareKeys_ev (h1 : a.length ≤ 9223372036854775807) (h2 : b.length ≤ 9223372036854775807) : callZ (evL T) n_evkey_CompareKeys [(.fsl ((a).map intC) c), (.fsl ((b).map intC) d)] = some (.v (.int .i64 (keysZ a b))) := by
  have h := slices_Compare_ev a b c d h1 h2
  rw [callZ, evL_code ext_evkey_CompareKeys code_evkey_CompareKeys]
  simp only [c_evkey_CompareKeys, h, ints_lo, Ev.runFunc, Ev.exec, Ev.evOpers, Ev.evOper, Ev.item_op, Ev.item_P, Ev.evOp, Ev.evs, Ev.Opnd.ev, Ev.Env.get, Ev.Env.set, Ev.look, Ev.argVars, Ev.resVals, Ev.resVal, Ev.resOf, Ev.kill, Ev.leave, Ev.storeLo, Ev.lo_v, Ev.lo_fsl, Ev.los_nil, Ev.los_cons, Ev.frz_lo, ↓Ev.obind, ↓reduceIte, List.length_cons, List.length_nil, List.take_nil, Nat.reduceAdd, Nat.reduceEqDiff, reduceCtorEq, Bool.and_self, and_self, Nat.zero_add, eq_self]
end
def cmpE (x y : Evt) : Int := if cmpZ x.time y.time = 0 then keysZ x.key y.key else cmpZ x.time y.time
theorem CompareEvents_evA (x y : Evt) (hx : x.key.length ≤ 9223372036854775807) (hy : y.key.length ≤ 9223372036854775807) (rs : Nat) (es : List (List AV)) (g : Nat) :
    (evL T).call n_evkey_CompareEvents [(.agg [(.v (.int .i64 (x.time))), (.fsl ((x.key).map intC) false), (.v (.int .i64 (x.lp))), (.v (.int .i64 (x.kind))), (.v (.int .i64 (x.proc))), (.v (.int .i64 (x.arg)))]), (.agg [(.v (.int .i64 (y.time))), (.fsl ((y.key).map intC) false), (.v (.int .i64 (y.lp))), (.v (.int .i64 (y.kind))), (.v (.int .i64 (y.proc))), (.v (.int .i64 (y.arg)))])] [.row rs es g] = some ((.v (.int .i64 (cmpE x y))), [.row rs es g]) := by
  obtain ⟨xt, xk, xl, xi, xp, xa⟩ := x
  obtain ⟨yt, yk, yl, yi, yp, ya⟩ := y
  have hc := cmp_Compare_ev xt yt
  have hk := evkey_CompareKeys_ev xk yk false false hx hy
  have hf := evkey_first_ev (cmpZ xt yt) (keysZ xk yk) true
  simp only [List.map_cons, List.map_nil, intC] at hf
  rw [evL_code ext_evkey_CompareEvents code_evkey_CompareEvents]
  simp only [c_evkey_CompareEvents, show ∀ v : List AV, List.replicate 2 v = [v, v] from fun _ => rfl, hc, hk, hf, cmpE, ite_self, ints_lo, Ev.runFunc, Ev.exec, Ev.evOpers, Ev.evOper, Ev.item_op, Ev.item_P, Ev.evOp, Ev.evs, Ev.Opnd.ev, Ev.Env.get, Ev.Env.set, Ev.look, Ev.argVars, Ev.cellsAt, Ev.loadC, Ev.fillR, Ev.AV.cells, Ev.AV.uc, Ev.plains, Ev.AV.plain, Ev.resVals, Ev.resVal, Ev.resOf, Ev.kill, Ev.leave, Ev.storeLo, Ev.SObj.lo, Ev.lo_v, Ev.lo_fsl, Ev.los_nil, Ev.los_cons, Ev.loss_nil, Ev.loss_cons, ↓Ev.obind, ↓reduceIte, List.length_cons, List.length_nil, List.take_succ_cons, List.take_nil, List.drop_succ_cons, List.drop_zero, List.set_cons_zero, List.set_cons_succ, List.head?_cons, Nat.reduceAdd, Nat.reduceEqDiff, Nat.reduceMul, Nat.reduceLT, Nat.reduceLeDiff, Nat.reducePow, reduceCtorEq, Bool.and_self, Bool.and_true, Bool.false_eq_true, and_self, true_and, ne_eq, not_false_eq_true, List.cons_ne_nil, Nat.zero_add, Nat.lt_add_one, eq_self]
theorem evkey_CompareEvents_ev (x y : Evt) (hx : x.key.length ≤ 9223372036854775807) (hy : y.key.length ≤ 9223372036854775807) :
    callZ (evL T) n_evkey_CompareEvents [(.agg [(.v (.int .i64 (x.time))), (.fsl ((x.key).map intC) false), (.v (.int .i64 (x.lp))), (.v (.int .i64 (x.kind))), (.v (.int .i64 (x.proc))), (.v (.int .i64 (x.arg)))]), (.agg [(.v (.int .i64 (y.time))), (.fsl ((y.key).map intC) false), (.v (.int .i64 (y.lp))), (.v (.int .i64 (y.kind))), (.v (.int .i64 (y.proc))), (.v (.int .i64 (y.arg)))])] = some (.v (.int .i64 (cmpE x y))) := by
  obtain ⟨xt, xk, xl, xi, xp, xa⟩ := x
  obtain ⟨yt, yk, yl, yi, yp, ya⟩ := y
  have hc := cmp_Compare_ev xt yt
  have hk := evkey_CompareKeys_ev xk yk false false hx hy
  have hf := evkey_first_ev (cmpZ xt yt) (keysZ xk yk) true
  simp only [List.map_cons, List.map_nil, intC] at hf
  rw [callZ, evL_code ext_evkey_CompareEvents code_evkey_CompareEvents]
  simp only [c_evkey_CompareEvents, show ∀ v : List AV, List.replicate 2 v = [v, v] from fun _ => rfl, hc, hk, hf, cmpE, ints_lo, Ev.runFunc, Ev.exec, Ev.evOpers, Ev.evOper, Ev.item_op, Ev.item_P, Ev.evOp, Ev.evs, Ev.Opnd.ev, Ev.Env.get, Ev.Env.set, Ev.look, Ev.argVars, Ev.cellsAt, Ev.loadC, Ev.fillR, Ev.AV.cells, Ev.AV.uc, Ev.plains, Ev.AV.plain, Ev.resVals, Ev.resVal, Ev.resOf, Ev.kill, Ev.leave, Ev.storeLo, Ev.lo_v, Ev.lo_fsl, Ev.los_nil, Ev.los_cons, Ev.loss_nil, Ev.loss_cons, Ev.frz_lo, ↓Ev.obind, ↓reduceIte, List.length_cons, List.length_nil, List.take_nil, List.drop_succ_cons, List.drop_zero, List.set_cons_zero, List.set_cons_succ, List.head?_cons, Nat.reduceAdd, Nat.reduceEqDiff, Nat.reduceMul, Nat.reduceLT, Nat.reduceLeDiff, Nat.reducePow, reduceCtorEq, Bool.and_self, Bool.false_eq_true, and_self, ne_eq, not_false_eq_true, List.cons_ne_nil, Nat.zero_add, Nat.lt_add_one, eq_self]
end Go.Proofs.Ytdphbgnlmffgaaa.K
namespace Go.Ev
section
variable {α : Type}
theorem get_mid {D L M : List α} {x : α} {n : Nat} (h : D = L ++ x :: M) (hn : n = L.length) : D[n]? = some x := by
  subst h hn; simp
theorem get_in {D L X M : List α} {i n : Nat} (h : D = L ++ (X ++ M)) (hi : i < X.length) (hn : n = L.length + i) : D[n]? = X[i]? := by
  subst h hn
  rw [List.getElem?_append_right (by omega), List.getElem?_append_left (by omega)]
  congr 1; omega
theorem swap_next {D L M : List α} {x y : α} {n m : Nat} (h : D = L ++ y :: x :: M) (hn : n = L.length) (hm : m = n + 1) : (D.set m y).set n x = L ++ x :: y :: M := by
  subst h hm hn; simp []
theorem swap_next' {D L M : List α} {x y : α} {n m : Nat} (h : D = L ++ y :: x :: M) (hn : n = L.length) (hm : m = n + 1) : (D.set n x).set m y = L ++ x :: y :: M := by
  subst h hm hn; simp []
theorem swap_far {D L M N : List α} {x y : α} {n m : Nat} (h : D = L ++ x :: (M ++ y :: N)) (hn : n = L.length) (hm : m = n + 1 + M.length) : (D.set n y).set m x = L ++ y :: (M ++ x :: N) := by
  subst h hm hn
  rw [List.set_append, if_neg (Nat.lt_irrefl _), Nat.sub_self, List.set_cons_zero, List.set_append, if_neg (by omega), show L.length + 1 + M.length - L.length = M.length + 1 by omega, List.set_cons_succ, List.set_append, if_neg (Nat.lt_irrefl _), Nat.sub_self, List.set_cons_zero]
variable {R : α → α → Prop}
theorem cross (tr : ∀ a b c, R a b → R b c → R a c) {X Y : List α} (hX : X.Pairwise R) (hY : Y.Pairwise R) (h : ∀ u v, X[X.length - 1]? = some u → Y[0]? = some v → R u v) : ∀ a ∈ X, ∀ b ∈ Y, R a b := by
  intro a ha b hb
  obtain ⟨i, hi⟩ := List.mem_iff_getElem?.1 ha
  obtain ⟨j, hj⟩ := List.mem_iff_getElem?.1 hb
  obtain ⟨hi', hi⟩ := List.getElem?_eq_some_iff.1 hi
  obtain ⟨hj', hj⟩ := List.getElem?_eq_some_iff.1 hj
  rw [List.pairwise_iff_getElem] at hX hY
  have h0 := h _ _ (List.getElem?_eq_getElem (by omega)) (List.getElem?_eq_getElem (by omega))
  have h1 : R a Y[0] := by
    by_cases c : i = X.length - 1
    · subst c; rw [← hi]; exact h0
    · exact tr _ _ _ (by rw [← hi]; exact hX i (X.length - 1) hi' (by omega) (by omega)) h0
  by_cases c : j = 0
  · subst c; rw [← hj]; exact h1
  · exact tr _ _ _ h1 (by rw [← hj]; exact hY 0 j (by omega) hj' (by omega))
theorem merge_split (tr : ∀ a b c, R a b → R b c → R a c) {X1 X2 Y1 Y2 Z1 Z2 : List α} (hX : (X1 ++ X2).Pairwise R) (hY : (Y1 ++ Y2).Pairwise R)
    (h1 : ∀ u v, X1[X1.length - 1]? = some u → Y2[0]? = some v → R u v) (h2 : ∀ u v, Y1[Y1.length - 1]? = some u → X2[0]? = some v → R u v)
    (p1 : Z1.Perm (X1 ++ Y1)) (p2 : Z2.Perm (X2 ++ Y2)) (s1 : Z1.Pairwise R) (s2 : Z2.Pairwise R) : (Z1 ++ Z2).Perm (X1 ++ X2 ++ (Y1 ++ Y2)) ∧ (Z1 ++ Z2).Pairwise R := by
  obtain ⟨x1, x2, x3⟩ := List.pairwise_append.1 hX
  obtain ⟨y1, y2, y3⟩ := List.pairwise_append.1 hY
  have c1 := cross tr x1 y2 h1
  have c2 := cross tr y1 x2 h2
  refine ⟨(p1.append p2).trans ?_, List.pairwise_append.2 ⟨s1, s2, ?_⟩⟩
  · rw [List.append_assoc, List.append_assoc]
    refine List.Perm.append_left X1 ?_
    rw [← List.append_assoc, ← List.append_assoc]
    exact List.Perm.append_right Y2 List.perm_append_comm
  · intro a ha b hb
    rw [p1.mem_iff, List.mem_append] at ha
    rw [p2.mem_iff, List.mem_append] at hb
    rcases ha with ha | ha <;> rcases hb with hb | hb
    · exact x3 a ha b hb
    · exact c1 a ha b hb
    · exact c2 a ha b hb
    · exact y3 a ha b hb
theorem insert_split (tr : ∀ a b c, R a b → R b c → R a c) {A B : List α} {x : α} (h : (A ++ B).Pairwise R) (h1 : ∀ u, A[A.length - 1]? = some u → R u x) (h2 : ∀ v, B[0]? = some v → R x v) : (A ++ x :: B).Pairwise R := by
  obtain ⟨a1, a2, a3⟩ := List.pairwise_append.1 h
  have c1 := cross tr a1 (List.pairwise_singleton R x) (fun u v hu hv => by simp at hv; subst hv; exact h1 u hu)
  have c2 := cross tr (List.pairwise_singleton R x) a2 (fun u v hu hv => by simp at hu; subst hu; exact h2 v hv)
  refine List.pairwise_append.2 ⟨a1, List.pairwise_cons.2 ⟨fun b hb => c2 x (by simp) b hb, a2⟩, fun a ha b hb => ?_⟩
  rcases List.mem_cons.1 hb with rfl | hb
  · exact c1 a ha _ (by simp)
  · exact a3 a ha b hb
inductive Blk (R : α → α → Prop) (s : Nat) : List α → Prop
  | last {l : List α} : l.length ≤ s → l.Pairwise R → Blk R s l
  | more {X Y : List α} : X.length = s → X.Pairwise R → Blk R s Y → Blk R s (X ++ Y)
theorem Blk.sorted {s : Nat} {l : List α} (h : Blk R s l) (hs : l.length ≤ s) : l.Pairwise R := by
  cases h with
  | last _ h => exact h
  | @more X Y h1 h2 h3 =>
    rw [List.length_append] at hs
    obtain rfl := List.eq_nil_of_length_eq_zero (l := Y) (by omega)
    simpa using h2
theorem Blk.split {s : Nat} {l : List α} (h : Blk R s l) (hs : s < l.length) : ∃ X Y, l = X ++ Y ∧ X.length = s ∧ X.Pairwise R ∧ Blk R s Y := by
  cases h with
  | last h1 _ => omega
  | @more X Y h1 h2 h3 => exact ⟨X, Y, rfl, h1, h2, h3⟩
theorem Blk.nil {s : Nat} : Blk R s ([] : List α) := .last (Nat.zero_le _) .nil
theorem itB_while {f : Env → Store → R3} {s : Env → Store → Option (Env × Store)} {τ : Type} (E : τ → Env) (S : τ → Store) (m : τ → Nat) (Inv : τ → Prop) (Q : CExit × Env × Store → Prop)
    (step : ∀ a, Inv a → (∃ a', it1 f s (E a) (S a) = some (.inl (E a', S a')) ∧ Inv a' ∧ m a' < m a) ∨ ∃ y, it1 f s (E a) (S a) = some (.inr y) ∧ Q y) :
    ∀ a, Inv a → ∃ y, itB f s (E a) (S a) = some y ∧ Q y := by
  have : ∀ k a, m a ≤ k → Inv a → ∃ y, itB f s (E a) (S a) = some y ∧ Q y := by
    intro k
    induction k with
    | zero =>
      intro a hk ha
      rcases step a ha with ⟨a', h1, h2, h3⟩ | ⟨y, h1, h2⟩
      · omega
      · exact ⟨y, itB_stop h1, h2⟩
    | succ k ih =>
      intro a hk ha
      rcases step a ha with ⟨a', h1, h2, h3⟩ | ⟨y, h1, h2⟩
      · obtain ⟨y, h4, h5⟩ := ih a' (by omega) h2
        exact ⟨y, itB_step h1 h4, h5⟩
      · exact ⟨y, itB_stop h1, h2⟩
  exact fun a => this (m a) a (Nat.le_refl _)
end
end Go.Ev
namespace Go.Proofs.Ytdphbgnlmffgaaa.K
open Go.Ev
set_option maxRecDepth 10000
theorem w64_add {a b : Nat} (h : a + b < 2 ^ 62) : IntKind.i64.wrap ((a : Int) + (b : Int)) = ((a + b : Nat) : Int) := by rw [w64_small (by omega) (by omega)]; simp
theorem w64_add1 {a : Nat} (h : a < 2 ^ 62) : IntKind.i64.wrap ((a : Int) + 1) = ((a + 1 : Nat) : Int) := by rw [w64_small (by omega) (by omega)]; simp
theorem w64_sub {a b c : Nat} (h : a = b + c) (h2 : a < 2 ^ 62) : IntKind.i64.wrap ((a : Int) - (b : Int)) = (c : Int) := by rw [w64_small (by omega) (by omega)]; omega
theorem w64_sub1 {a c : Nat} (h : a = c + 1) (h2 : a < 2 ^ 62) : IntKind.i64.wrap ((a : Int) - 1) = (c : Int) := by rw [w64_small (by omega) (by omega)]; omega
section
variable (g : Nat) (cl : Bool) (n : Nat)
theorem swapRange_ev (L X M Y N : List Evt) (hXY : Y.length = X.length) (hn : n = (L ++ (X ++ (M ++ (Y ++ N)))).length) (hb : n < 2 ^ 61) (a b : Nat) (ha : a = L.length) (hbb : b = L.length + X.length + M.length) :
    (evL T).call n_slices_swapRangeCmpFunc_api_SimEvent [.sl 0 g 0 n cl, (.v (.int .i64 (a))), (.v (.int .i64 (b))), (.v (.int .i64 (X.length))), (.fn (.func n_evkey_CompareEvents) [] [])] [.row 6 ((L ++ (X ++ (M ++ (Y ++ N)))).map Evt.r) g] = some (.tup [], [.row 6 ((L ++ (Y ++ (M ++ (X ++ N)))).map Evt.r) g]) := by
  have hlen : n = L.length + (X.length + (M.length + (Y.length + N.length))) := by rw [hn]; simp
  have key := itB_for (f := exec (evL T) itL none c_slices_swapRangeCmpFunc_api_SimEvent_L1) (s := Ev.settle [0, 1, 2, 3, 10] true 1) (α := List Evt)
    (fun i D => ⟨[(0, .sl 0 g 0 n cl), (1, (.v (.int .i64 (a)))), (2, (.v (.int .i64 (b)))), (3, (.v (.int .i64 (X.length)))), (10, (.v (.int .i64 (i))))], []⟩) (fun i D => [.row 6 ((D).map Evt.r) g])
    (fun i D => D = L ++ ((Y.take i ++ X.drop i) ++ (M ++ ((X.take i ++ Y.drop i) ++ N)))) X.length
    (fun y => y.1 = .exit 0 ∧ y.2.1.marks = [] ∧ y.2.2 = [.row 6 ((L ++ (Y ++ (M ++ (X ++ N)))).map Evt.r) g]) ?_ ?_ 0 _ (Nat.zero_le _) rfl
  · obtain ⟨⟨y, e, σ⟩, k1, k2, k3, k4⟩ := key
    simp only [List.take_zero, List.drop_zero, List.nil_append, Int.cast_ofNat_Int] at k1 k2 k3 k4
    subst k2; subst k4
    rw [evL_code ext_slices_swapRangeCmpFunc_api_SimEvent code_slices_swapRangeCmpFunc_api_SimEvent]
    simp only [c_slices_swapRangeCmpFunc_api_SimEvent, k1, k3, evts_lo, Ev.runFunc, Ev.exec, Ev.evOpers, Ev.evOper, Ev.item_op, Ev.evOp, Ev.Opnd.ev, Ev.Env.get, Ev.Env.set, Ev.look, Ev.argVars, Ev.resVals, Ev.resOf, Ev.kill, Ev.leave, Ev.settle, Ev.keep, Ev.varsLo, Ev.marksLo, Ev.storeLo, Ev.SObj.lo, Ev.lo_v, Ev.lo_tup, Ev.lo_sl, Ev.los_nil, ↓Ev.obind, ↓Ev.itL_itB, ↓reduceIte, List.length_cons, List.length_nil, List.take_succ_cons, List.take_nil, Nat.reduceAdd, Nat.reduceEqDiff, reduceCtorEq, decide_true, Bool.and_self, and_self, Nat.zero_add, Nat.lt_add_one, eq_self]
  · rintro i D hi hD
    obtain ⟨x, hx⟩ : ∃ x, X[i]? = some x := ⟨_, List.getElem?_eq_getElem hi⟩
    obtain ⟨y, hy⟩ : ∃ y, Y[i]? = some y := ⟨_, List.getElem?_eq_getElem (by omega)⟩
    have dx : X.drop i = x :: X.drop (i + 1) := by obtain ⟨_, rfl⟩ := List.getElem?_eq_some_iff.1 hx; exact List.drop_eq_getElem_cons hi
    have dy : Y.drop i = y :: Y.drop (i + 1) := by obtain ⟨_, rfl⟩ := List.getElem?_eq_some_iff.1 hy; exact List.drop_eq_getElem_cons (by omega)
    have e1 : D = (L ++ Y.take i) ++ x :: ((X.drop (i + 1) ++ (M ++ X.take i)) ++ y :: (Y.drop (i + 1) ++ N)) := by rw [hD, dx, dy]; simp
    have l1 : a + i = (L ++ Y.take i).length := by simp; omega
    have l2 : b + i = a + i + 1 + (X.drop (i + 1) ++ (M ++ X.take i)).length := by simp; omega
    have gx : D[a + i]? = some x := get_mid e1 l1
    have gy : D[b + i]? = some y := by
      refine get_mid (L := (L ++ Y.take i) ++ x :: (X.drop (i + 1) ++ (M ++ X.take i))) (M := Y.drop (i + 1) ++ N) (by rw [e1]; simp) ?_
      rw [l2, l1]; simp; omega
    have ge : D.length = n := by rw [e1, hlen]; simp; omega
    have sw := swap_far e1 l1 l2
    have hne : ¬ (a + i = b + i) := by omega
    have hi' : (i : Int) < (X.length : Int) := by omega
    have wa : IntKind.i64.wrap ((a : Int) + (i : Int)) = ((a + i : Nat) : Int) := w64_add (by omega)
    have wb : IntKind.i64.wrap ((b : Int) + (i : Int)) = ((b + i : Nat) : Int) := w64_add (by omega)
    have wi : IntKind.i64.wrap ((i : Int) + 1) = ((i + 1 : Nat) : Int) := w64_add1 (by omega)
    have ra : a + i < n := by omega
    have rb : b + i < n := by omega
    obtain ⟨xt, xk, xl, xi, xp, xa⟩ := x
    obtain ⟨yt, yk, yl, yi, yp, ya⟩ := y
    have hs : ∀ v, ((D.map Evt.r).set (a + i) v)[b + i]? = some (Evt.r ⟨yt, yk, yl, yi, yp, ya⟩) := fun v => by rw [List.getElem?_set_ne hne, List.getElem?_map, gy]; rfl
    have hlo := evts_lo 1 ((D.set (a + i) ⟨yt, yk, yl, yi, yp, ya⟩).set (b + i) ⟨xt, xk, xl, xi, xp, xa⟩)
    simp only [List.map_set, Evt.r] at hlo
    refine .inl ⟨(D.set (a + i) ⟨yt, yk, yl, yi, yp, ya⟩).set (b + i) ⟨xt, xk, xl, xi, xp, xa⟩, ?_, ?_⟩
    · simp only [c_slices_swapRangeCmpFunc_api_SimEvent_L1, Int.natCast_nonneg, Int.toNat_natCast, List.getElem?_map, Option.map_some, gx, gy, hs, hi', wa, wb, wi, ra, rb, hlo, List.map_set, Evt.r, Ev.exec, Ev.evOpers, Ev.evOper, Ev.item_op, Ev.evOp, Ev.Opnd.ev, Ev.Env.get, Ev.Env.set, Ev.look, Ev.cellsAt, Ev.loadC, Ev.AV.cells, Ev.plains, Ev.AV.plain, Ev.bin_add, Ev.bin_lss, Ev.settle, Ev.keep, Ev.varsLo, Ev.marksLo, Ev.storeLo, Ev.SObj.lo, Ev.lo_v, Ev.lo_sl, ↓Ev.obind, Ev.it1, ↓reduceIte, List.length_cons, List.length_nil, List.getElem?_cons_zero, List.take_succ_cons, List.take_zero, List.take_nil, List.drop_succ_cons, List.drop_zero, List.drop_nil, List.nil_append, List.append_nil, List.set_cons_zero, Nat.reduceAdd, Nat.reduceEqDiff, reduceCtorEq, decide_true, Bool.and_self, and_self, Nat.zero_add, Nat.lt_add_one, Nat.le_refl, eq_self]
    · rw [sw, take_next hx, take_next hy]; simp
  · rintro D hD
    have hD' : D = L ++ (Y ++ (M ++ (X ++ N))) := by rw [hD, ← hXY, List.take_length, List.drop_length, hXY, List.take_length, List.drop_length]; simp
    subst hD'
    simp only [c_slices_swapRangeCmpFunc_api_SimEvent_L1, Int.lt_irrefl, Ev.exec, Ev.evOpers, Ev.evOper, Ev.item_op, Ev.evOp, Ev.Opnd.ev, Ev.Env.get, Ev.Env.set, Ev.look, Ev.bin_lss, ↓Ev.obind, Ev.it1, ↓reduceIte, Nat.reduceEqDiff, reduceCtorEq, decide_false, Bool.false_eq_true, eq_self]
    exact ⟨_, rfl, rfl, rfl, rfl⟩
end
open Go.Ev
theorem cmpZ_neg (a b : Int) : cmpZ b a = -cmpZ a b := by unfold cmpZ; split <;> split <;> (try split) <;> omega
theorem cmpZ_cases (a b : Int) : (cmpZ a b < 0 ↔ a < b) ∧ (cmpZ a b = 0 ↔ a = b) ∧ (0 < cmpZ a b ↔ b < a) := by
  unfold cmpZ
  split
  · refine ⟨?_, ?_, ?_⟩ <;> omega
  split
  · refine ⟨?_, ?_, ?_⟩ <;> omega
  · refine ⟨?_, ?_, ?_⟩ <;> omega
theorem keysZ_neg : ∀ a b : List Int, keysZ b a = -keysZ a b
  | [], [] => rfl
  | [], y :: b => by simp [keysZ]
  | x :: a, [] => by simp [keysZ]
  | x :: a, y :: b => by
    simp only [keysZ]
    by_cases h : x = y
    · subst h; simp only [if_true]; exact keysZ_neg a b
    · rw [if_neg h, if_neg (fun e => h e.symm)]; exact cmpZ_neg x y
theorem keysZ_trans : ∀ a b c : List Int, keysZ a b ≤ 0 → keysZ b c ≤ 0 → keysZ a c ≤ 0
  | [], b, c, _, _ => by cases c <;> simp [keysZ]
  | x :: a, [], c, h, _ => by simp [keysZ] at h
  | x :: a, y :: b, [], _, h => by simp [keysZ] at h
  | x :: a, y :: b, z :: c, h1, h2 => by
    simp only [keysZ] at h1 h2 ⊢
    have c1 := cmpZ_cases x y
    have c2 := cmpZ_cases y z
    have c3 := cmpZ_cases x z
    by_cases e1 : x = y
    · subst e1
      rw [if_pos rfl] at h1
      by_cases e2 : x = z
      · subst e2; rw [if_pos rfl] at h2 ⊢; exact keysZ_trans a b c h1 h2
      · rw [if_neg e2] at h2 ⊢; exact h2
    · rw [if_neg e1] at h1
      by_cases e2 : y = z
      · subst e2; rw [if_neg e1]; exact h1
      · rw [if_neg e2] at h2
        have : ¬ x = z := by intro e; omega
        rw [if_neg this]
        omega
def leE (x y : Evt) : Prop := cmpE x y ≤ 0
theorem cmpE_neg (x y : Evt) : cmpE y x = -cmpE x y := by
  unfold cmpE
  have := cmpZ_neg x.time y.time
  have := keysZ_neg x.key y.key
  by_cases h : cmpZ x.time y.time = 0
  · rw [if_pos h, if_pos (by omega)]; assumption
  · rw [if_neg h, if_neg (by omega)]; assumption
theorem leE_trans (x y z : Evt) (h1 : leE x y) (h2 : leE y z) : leE x z := by
  unfold leE cmpE at *
  have c1 := cmpZ_cases x.time y.time
  have c2 := cmpZ_cases y.time z.time
  have c3 := cmpZ_cases x.time z.time
  by_cases e1 : cmpZ x.time y.time = 0
  · rw [if_pos e1] at h1
    by_cases e2 : cmpZ y.time z.time = 0
    · rw [if_pos e2] at h2
      rw [if_pos (by omega)]; exact keysZ_trans _ _ _ h1 h2
    · rw [if_neg e2] at h2
      rw [if_neg (by omega)]; omega
  · rw [if_neg e1] at h1
    by_cases e2 : cmpZ y.time z.time = 0
    · rw [if_neg (by omega)]; omega
    · rw [if_neg e2] at h2
      rw [if_neg (by omega)]; omega
theorem leE_of_not (x y : Evt) (h : ¬ cmpE x y < 0) : leE y x := by unfold leE; have := cmpE_neg x y; omega
theorem leE_of (x y : Evt) (h : cmpE x y < 0) : leE x y := by unfold leE; omega
theorem cmpE_zero (x y : Evt) : cmpE x y = 0 ↔ x.time = y.time ∧ x.key = y.key := by
  unfold cmpE
  have := cmpZ_cases x.time y.time
  have := keysZ_zero x.key y.key
  by_cases h : cmpZ x.time y.time = 0
  · rw [if_pos h]; constructor
    · intro k; exact ⟨by omega, by simpa [k] using this⟩
    · intro k; exact this.2 k.2
  · rw [if_neg h]; constructor
    · intro k; exact absurd k h
    · intro k; omega
open Go.Ev
set_option maxRecDepth 10000
section
variable (g : Nat) (cl : Bool) (n : Nat)
def KeysOk (D : List Evt) : Prop := ∀ x ∈ D, x.key.length ≤ 9223372036854775807
theorem insertion_inner (P S Q : List Evt) (x : Evt) (hn : n = (P ++ (S ++ x :: Q)).length) (hb : n < 2 ^ 61) (hk : KeysOk (P ++ (S ++ x :: Q))) (hS : S.Pairwise leE) (a : Nat) (ha : a = P.length) (b i : Int) :
    ∃ y, itB (exec (evL T) itL none c_slices_insertionSortCmpFunc_api_SimEvent_L2) (Ev.settle [0, 1, 2, 3, 8, 9] true 1) ⟨[(0, .sl 0 g 0 n cl), (1, (.v (.int .i64 (a)))), (2, (.v (.int .i64 (b)))), (3, (.fn (.func n_evkey_CompareEvents) [] [])), (8, (.v (.int .i64 (i)))), (9, (.v (.int .i64 ((a + S.length : Nat)))))], []⟩ [.row 6 ((P ++ (S ++ x :: Q)).map Evt.r) g] = some y ∧
      (y.1 = .exit 2 ∧ y.2.1.marks = [] ∧ Ev.look y.2.1.vars 0 = some (.sl 0 g 0 n cl) ∧ Ev.look y.2.1.vars 1 = some (.v (.int .i64 (a))) ∧ Ev.look y.2.1.vars 2 = some (.v (.int .i64 (b))) ∧ Ev.look y.2.1.vars 3 = some (.fn (.func n_evkey_CompareEvents) [] []) ∧ Ev.look y.2.1.vars 8 = some (.v (.int .i64 (i))) ∧ ∃ S' : List Evt, S'.Perm (x :: S) ∧ S'.Pairwise leE ∧ y.2.2 = [.row 6 ((P ++ (S' ++ Q)).map Evt.r) g]) := by
  refine itB_while (τ := List Evt × Nat) (fun s => ⟨[(0, .sl 0 g 0 n cl), (1, (.v (.int .i64 (a)))), (2, (.v (.int .i64 (b)))), (3, (.fn (.func n_evkey_CompareEvents) [] [])), (8, (.v (.int .i64 (i)))), (9, (.v (.int .i64 (s.2))))], []⟩) (fun s => [.row 6 ((s.1).map Evt.r) g]) (fun s => s.2)
    (fun s => ∃ A B, s.1 = P ++ (A ++ x :: (B ++ Q)) ∧ s.2 = a + A.length ∧ A ++ B = S ∧ ∀ v, B[0]? = some v → leE x v) _ ?_ (P ++ (S ++ x :: Q), a + S.length) ⟨S, [], by simp, rfl, by simp, by simp⟩
  rintro ⟨D, j⟩ ⟨A, B, hD, hj, hAB, hB⟩
  simp only at hD hj ⊢
  have hlen : n = P.length + (S.length + (Q.length + 1)) := by rw [hn]; simp
  have hSl : S.length = A.length + B.length := by rw [← hAB]; simp
  have fin : (∀ u, A[A.length - 1]? = some u → leE u x) → ∃ S' : List Evt, S'.Perm (x :: S) ∧ S'.Pairwise leE ∧ ([.row 6 ((D).map Evt.r) g] : Store) = [.row 6 ((P ++ (S' ++ Q)).map Evt.r) g] := fun h => by
    refine ⟨A ++ x :: B, ?_, insert_split leE_trans (by rw [hAB]; exact hS) h hB, by rw [hD]; simp⟩
    rw [← hAB]; exact List.perm_middle
  rcases List.eq_nil_or_concat A with rfl | ⟨A0, y, rfl⟩
  · have h1 : ¬ (j : Int) > (a : Int) := by simp at hj; omega
    refine .inr ?_
    simp only [c_slices_insertionSortCmpFunc_api_SimEvent_L2, h1, Ev.exec, Ev.evOpers, Ev.evOper, Ev.item_op, Ev.evOp, Ev.Opnd.ev, Ev.Env.get, Ev.Env.set, Ev.Env.unset, Ev.look, Ev.bin_gtr, ↓Ev.obind, Ev.it1, ↓reduceIte, Nat.reduceEqDiff, reduceCtorEq, decide_false, Bool.false_eq_true, eq_self]
    exact ⟨_, rfl, rfl, rfl, rfl, rfl, rfl, rfl, rfl, fin (by simp)⟩
  · simp only [List.concat_eq_append, List.length_append, List.length_cons, List.length_nil] at hD hj hSl hAB fin
    obtain ⟨k, hk1⟩ : ∃ k, k = a + A0.length := ⟨_, rfl⟩
    have hjk : j = k + 1 := by omega
    have h1 : (j : Int) > (a : Int) := by omega
    have e1 : D = (P ++ A0) ++ y :: x :: (B ++ Q) := by rw [hD]; simp
    have l1 : k = (P ++ A0).length := by simp; omega
    have gy : D[k]? = some y := get_mid e1 l1
    have gx : D[j]? = some x := get_mid (L := P ++ A0 ++ [y]) (M := B ++ Q) (by rw [e1]; simp) (by simp; omega)
    have ge : D.length = n := by rw [e1, hlen]; simp; omega
    have ws : IntKind.i64.wrap ((j : Int) - 1) = (k : Int) := w64_sub1 hjk (by omega)
    have rj : j < n := by omega
    have rk : k < n := by omega
    have kx : x.key.length ≤ 9223372036854775807 := hk x (by simp)
    have ky : y.key.length ≤ 9223372036854775807 := hk y (by rw [← hAB]; simp)
    have hc := CompareEvents_evA x y kx ky 6 (D.map Evt.r) g
    have sw := swap_next e1 l1 hjk
    have hne : ¬ (j = k) := by omega
    by_cases hlt : cmpE x y < 0
    · left
      have hle := leE_of x y hlt
      obtain ⟨x', rfl⟩ : ∃ z, x = z := ⟨x, rfl⟩
      have hlo := evts_lo 1 ((D.set j y).set k x)
      refine ⟨((D.set j y).set k x, k), ?_, ⟨A0, y :: B, by rw [sw]; simp, hk1, by rw [← hAB]; simp, fun v hv => by simp at hv; rw [← hv]; exact hle⟩, by simp only; omega⟩
      obtain ⟨xt, xk, xl, xi, xp, xa⟩ := x
      obtain ⟨yt, yk, yl, yi, yp, ya⟩ := y
      have hs : ∀ v, ((D.map Evt.r).set j v)[k]? = some (Evt.r ⟨yt, yk, yl, yi, yp, ya⟩) := fun v => by rw [List.getElem?_set_ne hne, List.getElem?_map, gy]; rfl
      simp only [List.map_set, Evt.r] at hlo
      simp only at hc
      simp only [c_slices_insertionSortCmpFunc_api_SimEvent_L2, Int.natCast_nonneg, Int.toNat_natCast, List.getElem?_map, Option.map_some, gx, gy, hs, h1, ws, rj, rk, hc, hlt, hlo, List.map_set, Evt.r, Ev.exec, Ev.evOpers, Ev.evOper, Ev.item_op, Ev.item_v, Ev.evOp, Ev.evs, Ev.Opnd.ev, Ev.Env.get, Ev.Env.set, Ev.look, Ev.cellsAt, Ev.loadC, Ev.AV.cells, Ev.plains, Ev.AV.plain, Ev.bin_sub, Ev.bin_lss, Ev.bin_gtr, Ev.settle, Ev.keep, Ev.varsLo, Ev.marksLo, Ev.storeLo, Ev.SObj.lo, Ev.lo_v, Ev.lo_sl, Ev.lo_fn, Ev.los_nil, ↓Ev.obind, Ev.it1, ↓reduceIte, List.length_cons, List.length_nil, List.getElem?_cons_zero, List.take_succ_cons, List.take_zero, List.take_nil, List.drop_succ_cons, List.drop_zero, List.drop_nil, List.nil_append, List.append_nil, List.set_cons_zero, Nat.reduceAdd, Nat.reduceEqDiff, reduceCtorEq, decide_true, Bool.and_self, and_self, Nat.zero_add, Nat.lt_add_one, Nat.le_refl, eq_self]
    · right
      have hf := fin (fun u hu => by simp at hu; rw [← hu]; exact leE_of_not x y hlt)
      obtain ⟨xt, xk, xl, xi, xp, xa⟩ := x
      obtain ⟨yt, yk, yl, yi, yp, ya⟩ := y
      simp only at hc
      simp only [c_slices_insertionSortCmpFunc_api_SimEvent_L2, Int.natCast_nonneg, Int.toNat_natCast, List.getElem?_map, Option.map_some, gx, gy, h1, ws, rj, rk, hc, hlt, Evt.r, Ev.exec, Ev.evOpers, Ev.evOper, Ev.item_op, Ev.item_v, Ev.evOp, Ev.evs, Ev.Opnd.ev, Ev.Env.get, Ev.Env.set, Ev.look, Ev.cellsAt, Ev.loadC, Ev.bin_sub, Ev.bin_lss, Ev.bin_gtr, ↓Ev.obind, Ev.it1, ↓reduceIte, List.length_cons, List.length_nil, List.getElem?_cons_zero, List.take_succ_cons, List.take_nil, List.drop_zero, List.nil_append, List.append_nil, Nat.reduceAdd, Nat.reduceEqDiff, reduceCtorEq, decide_true, decide_false, Bool.false_eq_true, and_self, Nat.zero_add, Nat.le_refl, eq_self]
      exact ⟨_, rfl, rfl, rfl, rfl, rfl, rfl, rfl, rfl, hf⟩
theorem insertion_ev (P S Q : List Evt) (hn : n = (P ++ (S ++ Q)).length) (hb : n < 2 ^ 61) (hk : KeysOk (P ++ (S ++ Q))) (a b : Nat) (ha : a = P.length) (hbb : b = a + S.length) :
    ∃ S' : List Evt, S'.Perm S ∧ S'.Pairwise leE ∧ (evL T).call n_slices_insertionSortCmpFunc_api_SimEvent [.sl 0 g 0 n cl, (.v (.int .i64 (a))), (.v (.int .i64 (b))), (.fn (.func n_evkey_CompareEvents) [] [])] [.row 6 ((P ++ (S ++ Q)).map Evt.r) g] = some (.tup [], [.row 6 ((P ++ (S' ++ Q)).map Evt.r) g]) := by
  have hlen : n = P.length + (S.length + Q.length) := by rw [hn]; simp
  have key := itB_while (f := exec (evL T) itL none c_slices_insertionSortCmpFunc_api_SimEvent_L1) (s := Ev.settle [0, 1, 2, 3, 8] true 1) (τ := List Evt × Nat)
    (fun s => ⟨[(0, .sl 0 g 0 n cl), (1, (.v (.int .i64 (a)))), (2, (.v (.int .i64 (b)))), (3, (.fn (.func n_evkey_CompareEvents) [] [])), (8, (.v (.int .i64 (s.2))))], []⟩) (fun s => [.row 6 ((s.1).map Evt.r) g]) (fun s => b - s.2)
    (fun s => (∃ A B, s.1 = P ++ (A ++ (B ++ Q)) ∧ s.2 = a + A.length ∧ (A ++ B).Perm S ∧ A.Pairwise leE) ∨ S = [] ∧ s.1 = P ++ Q ∧ s.2 = a + 1)
    (fun y => y.1 = .exit 0 ∧ y.2.1.marks = [] ∧ ∃ S' : List Evt, S'.Perm S ∧ S'.Pairwise leE ∧ y.2.2 = [.row 6 ((P ++ (S' ++ Q)).map Evt.r) g]) ?_ (P ++ (S ++ Q), a + 1) ?_
  · obtain ⟨⟨y, e, σ⟩, k1, k2, k3, S', k4, k5, k6⟩ := key
    simp only at k1 k2 k3 k6
    subst k2; subst k6
    refine ⟨S', k4, k5, ?_⟩
    have w1 : IntKind.i64.wrap ((a : Int) + 1) = ((a + 1 : Nat) : Int) := w64_add1 (by omega)
    rw [evL_code ext_slices_insertionSortCmpFunc_api_SimEvent code_slices_insertionSortCmpFunc_api_SimEvent]
    simp only [c_slices_insertionSortCmpFunc_api_SimEvent, w1, k1, k3, evts_lo, Ev.runFunc, Ev.exec, Ev.evOpers, Ev.evOper, Ev.item_op, Ev.evOp, Ev.Opnd.ev, Ev.Env.get, Ev.Env.set, Ev.look, Ev.argVars, Ev.bin_add, Ev.resVals, Ev.resOf, Ev.kill, Ev.leave, Ev.settle, Ev.keep, Ev.varsLo, Ev.marksLo, Ev.storeLo, Ev.SObj.lo, Ev.lo_v, Ev.lo_tup, Ev.lo_sl, Ev.lo_fn, Ev.los_nil, ↓Ev.obind, ↓Ev.itL_itB, ↓reduceIte, List.length_cons, List.length_nil, List.take_succ_cons, List.take_nil, Nat.reduceAdd, Nat.reduceEqDiff, reduceCtorEq, decide_true, Bool.and_self, and_self, Nat.zero_add, Nat.lt_add_one, eq_self]
  · rintro ⟨D, i⟩ (⟨A, B, hD, hi, hAB, hA⟩ | ⟨hS, hD, hi⟩)
    · simp only at hD hi ⊢
      have hl := hAB.length_eq
      rw [List.length_append] at hl
      cases B with
      | nil =>
        have h1 : ¬ (i : Int) < (b : Int) := by simp at hl; omega
        right
        simp only [c_slices_insertionSortCmpFunc_api_SimEvent_L1, h1, Ev.exec, Ev.evOpers, Ev.evOper, Ev.item_op, Ev.evOp, Ev.Opnd.ev, Ev.Env.get, Ev.Env.set, Ev.look, Ev.bin_lss, ↓Ev.obind, Ev.it1, ↓reduceIte, Nat.reduceEqDiff, reduceCtorEq, decide_false, Bool.false_eq_true, eq_self]
        exact ⟨_, rfl, rfl, rfl, A, by simpa using hAB, hA, by rw [hD]; simp⟩
      | cons x B =>
        rw [List.length_cons] at hl
        have h1 : (i : Int) < (b : Int) := by omega
        have hkD : KeysOk (P ++ (A ++ x :: (B ++ Q))) := by
          intro z hz
          refine hk z ?_
          simp only [List.mem_append, List.mem_cons] at hz ⊢
          have := hAB.mem_iff (a := z)
          simp only [List.mem_append, List.mem_cons] at this
          rcases hz with h | h | h | h | h
          · exact .inl h
          · exact .inr (.inl (this.1 (.inl h)))
          · exact .inr (.inl (this.1 (.inr (.inl h))))
          · exact .inr (.inl (this.1 (.inr (.inr h))))
          · exact .inr (.inr h)
        obtain ⟨⟨y, e, σ⟩, k1, k2, k3, k4, k5, k6, k7, k8, S', k9, k10, k11⟩ := insertion_inner g cl n P A (B ++ Q) x (by rw [hlen]; simp; omega) hb hkD hA a ha b i
        simp only at k1 k2 k3 k4 k5 k6 k7 k8 k11
        subst k2; subst k11
        have w1 : IntKind.i64.wrap ((i : Int) + 1) = ((i + 1 : Nat) : Int) := w64_add1 (by omega)
        left
        refine ⟨(P ++ (S' ++ (B ++ Q)), i + 1), ?_, .inl ⟨S', B, rfl, ?_, ?_, k10⟩, ?_⟩
        · rw [← hi] at k1
          rw [hD]
          simp only [List.cons_append] at k1 ⊢
          simp only [c_slices_insertionSortCmpFunc_api_SimEvent_L1, h1, w1, k1, k3, k4, k5, k6, k7, k8, evts_lo, Ev.exec, Ev.evOpers, Ev.evOper, Ev.item_op, Ev.evOp, Ev.Opnd.ev, Ev.Env.get, Ev.Env.set, Ev.look, Ev.bin_add, Ev.bin_lss, Ev.settle, Ev.keep, Ev.varsLo, Ev.marksLo, Ev.storeLo, Ev.SObj.lo, Ev.lo_v, Ev.lo_sl, Ev.lo_fn, Ev.los_nil, ↓Ev.obind, ↓Ev.itL_itB, Ev.it1, ↓reduceIte, List.length_cons, List.length_nil, List.take_succ_cons, List.take_nil, Nat.reduceEqDiff, reduceCtorEq, decide_true, Bool.and_self, and_self, Nat.zero_add, Nat.lt_add_one, eq_self]
        · have := k9.length_eq; rw [List.length_cons] at this; simp only; omega
        · exact ((k9.append_right B).trans List.perm_middle.symm).trans hAB
        · simp only; omega
    · simp only at hD hi ⊢
      subst hS
      have h1 : ¬ (i : Int) < (b : Int) := by simp at hbb; omega
      right
      simp only [c_slices_insertionSortCmpFunc_api_SimEvent_L1, h1, Ev.exec, Ev.evOpers, Ev.evOper, Ev.item_op, Ev.evOp, Ev.Opnd.ev, Ev.Env.get, Ev.Env.set, Ev.look, Ev.bin_lss, ↓Ev.obind, Ev.it1, ↓reduceIte, Nat.reduceEqDiff, reduceCtorEq, decide_false, Bool.false_eq_true, eq_self]
      exact ⟨_, rfl, rfl, rfl, [], List.Perm.nil, List.Pairwise.nil, by rw [hD]; simp⟩
  · cases S with
    | nil => exact .inr ⟨rfl, by simp, rfl⟩
    | cons x S => exact .inl ⟨[x], S, by simp, by simp, by simp, List.pairwise_singleton _ _⟩
end
open Go.Ev
set_option maxRecDepth 10000
section
variable (g : Nat) (cl : Bool) (n : Nat)
theorem rotate_ev (L X Y N : List Evt) (hX : 0 < X.length) (hY : 0 < Y.length) (hn : n = (L ++ (X ++ (Y ++ N))).length) (hb : n < 2 ^ 61) (a m b : Nat) (ha : a = L.length) (hm : m = a + X.length) (hbb : b = m + Y.length) :
    (evL T).call n_slices_rotateCmpFunc_api_SimEvent [.sl 0 g 0 n cl, (.v (.int .i64 (a))), (.v (.int .i64 (m))), (.v (.int .i64 (b))), (.fn (.func n_evkey_CompareEvents) [] [])] [.row 6 ((L ++ (X ++ (Y ++ N))).map Evt.r) g] = some (.tup [], [.row 6 ((L ++ (Y ++ (X ++ N))).map Evt.r) g]) := by
  have hlen : n = L.length + (X.length + (Y.length + N.length)) := by rw [hn]; simp
  have key := itB_while (f := exec (evL T) itL none c_slices_rotateCmpFunc_api_SimEvent_L1) (s := Ev.settle [0, 2, 4, 10, 11] true 1) (τ := List Evt × Nat × Nat)
    (fun s => ⟨[(0, .sl 0 g 0 n cl), (2, (.v (.int .i64 (m)))), (4, (.fn (.func n_evkey_CompareEvents) [] [])), (10, (.v (.int .i64 (s.2.1)))), (11, (.v (.int .i64 (s.2.2))))], []⟩) (fun s => [.row 6 ((s.1).map Evt.r) g]) (fun s => s.2.1 + s.2.2)
    (fun s => ∃ L' X' Y' N', s.1 = L' ++ (X' ++ (Y' ++ N')) ∧ s.2.1 = X'.length ∧ s.2.2 = Y'.length ∧ 0 < X'.length ∧ 0 < Y'.length ∧ m = L'.length + X'.length ∧ L' ++ (Y' ++ (X' ++ N')) = L ++ (Y ++ (X ++ N)))
    (fun y => ∃ i : Nat, y.1 = .exit 0 ∧ y.2.1.marks = [] ∧ Ev.look y.2.1.vars 0 = some (.sl 0 g 0 n cl) ∧ Ev.look y.2.1.vars 2 = some (.v (.int .i64 (m))) ∧ Ev.look y.2.1.vars 4 = some (.fn (.func n_evkey_CompareEvents) [] []) ∧ Ev.look y.2.1.vars 10 = some (.v (.int .i64 (i))) ∧
      ∃ L' X' Y' N' : List Evt, y.2.2 = [.row 6 ((L' ++ (X' ++ (Y' ++ N'))).map Evt.r) g] ∧ i = X'.length ∧ i = Y'.length ∧ m = L'.length + X'.length ∧ L' ++ (Y' ++ (X' ++ N')) = L ++ (Y ++ (X ++ N))) ?_ (L ++ (X ++ (Y ++ N)), X.length, Y.length) ⟨L, X, Y, N, rfl, rfl, rfl, hX, hY, by omega, rfl⟩
  · obtain ⟨⟨y, e, σ⟩, k1, i, k2, k3, k4, k5, k6, k7, L', X', Y', N', k8, k9, k10, k11, k12⟩ := key
    simp only at k1 k2 k3 k4 k5 k6 k7 k8
    subst k2; subst k8
    have hl2 := congrArg List.length k12
    simp only [List.length_append] at hl2
    have w1 : IntKind.i64.wrap ((m : Int) - (a : Int)) = (X.length : Int) := w64_sub hm (by omega)
    have w2 : IntKind.i64.wrap ((b : Int) - (m : Int)) = (Y.length : Int) := w64_sub hbb (by omega)
    have w3 : IntKind.i64.wrap ((m : Int) - (i : Int)) = (L'.length : Int) := w64_sub (by omega) (by omega)
    have sw := swapRange_ev g cl n L' X' [] Y' N' (by omega) (by simp; omega) hb L'.length m rfl (by simp; omega)
    simp only [List.nil_append] at sw
    rw [← k9, k12] at sw
    rw [evL_code ext_slices_rotateCmpFunc_api_SimEvent code_slices_rotateCmpFunc_api_SimEvent]
    simp only [c_slices_rotateCmpFunc_api_SimEvent, w1, w2, w3, k1, k3, k4, k5, k6, k7, sw, evts_lo, Ev.runFunc, Ev.exec, Ev.evOpers, Ev.evOper, Ev.item_op, Ev.item_I, Ev.evOp, Ev.evs, Ev.Opnd.ev, Ev.Env.get, Ev.Env.set, Ev.look, Ev.argVars, Ev.bin_sub, Ev.resVals, Ev.resOf, Ev.kill, Ev.leave, Ev.settle, Ev.keep, Ev.varsLo, Ev.marksLo, Ev.storeLo, Ev.SObj.lo, Ev.lo_v, Ev.lo_tup, Ev.lo_sl, Ev.lo_fn, Ev.los_nil, ↓Ev.obind, ↓Ev.itL_itB, ↓reduceIte, List.length_cons, List.length_nil, List.take_succ_cons, List.take_nil, Nat.reduceAdd, Nat.reduceEqDiff, reduceCtorEq, decide_true, Bool.and_self, and_self, Nat.zero_add, Nat.lt_add_one, eq_self]
  · rintro ⟨D, i, j⟩ ⟨L', X', Y', N', hD, hi, hj, hX', hY', hm', heq⟩
    simp only at hD hi hj ⊢
    have hl2 := congrArg List.length heq
    simp only [List.length_append] at hl2
    by_cases hij : i = j
    · right
      have h1 : (i : Int) = (j : Int) := by omega
      subst hij
      simp only [c_slices_rotateCmpFunc_api_SimEvent_L1, Ev.exec, Ev.evOpers, Ev.evOper, Ev.item_op, Ev.evOp, Ev.Opnd.ev, Ev.Env.get, Ev.Env.set, Ev.look, Ev.bin_neq, ↓Ev.obind, Ev.it1, ↓reduceIte, Nat.reduceEqDiff, reduceCtorEq, decide_false, Bool.false_eq_true, ne_eq, not_true_eq_false, eq_self]
      exact ⟨_, rfl, i, rfl, rfl, rfl, rfl, rfl, rfl, L', X', Y', N', by rw [hD], hi, hj, hm', heq⟩
    have h1 : ¬ (i : Int) = (j : Int) := by omega
    left
    by_cases hgt : j < i
    · have h2 : (i : Int) > (j : Int) := by omega
      obtain ⟨X1, X2, rfl, hX1⟩ : ∃ X1 X2, X' = X1 ++ X2 ∧ X1.length = j := ⟨X'.take j, X'.drop j, (List.take_append_drop _ _).symm, by simp; omega⟩
      rw [List.length_append] at hi hX' hm' hl2
      have sw := swapRange_ev g cl n L' X1 X2 Y' N' (by omega) (by simp; omega) hb L'.length m rfl (by omega)
      rw [show L' ++ (X1 ++ (X2 ++ (Y' ++ N'))) = D by rw [hD]; simp, hX1] at sw
      have w3 : IntKind.i64.wrap ((m : Int) - (i : Int)) = (L'.length : Int) := w64_sub (by omega) (by omega)
      have w4 : IntKind.i64.wrap ((i : Int) - (j : Int)) = (X2.length : Int) := w64_sub (by omega) (by omega)
      refine ⟨(L' ++ (Y' ++ (X2 ++ (X1 ++ N'))), X2.length, j), ?_, ⟨L' ++ Y', X2, X1, N', by simp, rfl, hX1.symm, by omega, by omega, by simp; omega, by rw [← heq]; simp⟩, by first | omega | (simp only; omega)⟩
      simp only [c_slices_rotateCmpFunc_api_SimEvent_L1, h1, h2, w3, w4, sw, evts_lo, Ev.exec, Ev.evOpers, Ev.evOper, Ev.item_op, Ev.item_I, Ev.evOp, Ev.evs, Ev.Opnd.ev, Ev.Env.get, Ev.Env.set, Ev.look, Ev.bin_sub, Ev.bin_neq, Ev.bin_gtr, Ev.settle, Ev.keep, Ev.varsLo, Ev.marksLo, Ev.storeLo, Ev.SObj.lo, Ev.lo_v, Ev.lo_sl, Ev.lo_fn, Ev.los_nil, ↓Ev.obind, Ev.it1, ↓reduceIte, List.take_succ_cons, List.take_nil, Nat.reduceEqDiff, reduceCtorEq, decide_true, Bool.and_self, and_self, ne_eq, not_false_eq_true, Nat.lt_add_one, eq_self]
    · have h2 : ¬ (i : Int) > (j : Int) := by omega
      obtain ⟨Y1, Y2, rfl, hY2⟩ : ∃ Y1 Y2, Y' = Y1 ++ Y2 ∧ Y2.length = i := ⟨Y'.take (j - i), Y'.drop (j - i), (List.take_append_drop _ _).symm, by simp; omega⟩
      rw [List.length_append] at hj hY' hl2
      have sw := swapRange_ev g cl n L' X' Y1 Y2 N' (by omega) (by simp; omega) hb L'.length (m + Y1.length) rfl (by omega)
      rw [show L' ++ (X' ++ (Y1 ++ (Y2 ++ N'))) = D by rw [hD]; simp, ← hi] at sw
      have w3 : IntKind.i64.wrap ((m : Int) - (i : Int)) = (L'.length : Int) := w64_sub (by omega) (by omega)
      have w4 : IntKind.i64.wrap ((m : Int) + (j : Int)) = ((m + j : Nat) : Int) := w64_add (by omega)
      have w5 : IntKind.i64.wrap (((m + j : Nat) : Int) - (i : Int)) = ((m + Y1.length : Nat) : Int) := w64_sub (by omega) (by omega)
      have w6 : IntKind.i64.wrap ((j : Int) - (i : Int)) = (Y1.length : Int) := w64_sub (by omega) (by omega)
      refine ⟨(L' ++ (Y2 ++ (Y1 ++ (X' ++ N'))), i, Y1.length), ?_, ⟨L', Y2, Y1, X' ++ N', rfl, hY2.symm, rfl, by omega, by omega, by omega, by rw [← heq]; simp⟩, by first | omega | (simp only; omega)⟩
      simp only [c_slices_rotateCmpFunc_api_SimEvent_L1, h1, h2, w3, w4, w5, w6, sw, evts_lo, Ev.exec, Ev.evOpers, Ev.evOper, Ev.item_op, Ev.item_I, Ev.evOp, Ev.evs, Ev.Opnd.ev, Ev.Env.get, Ev.Env.set, Ev.look, Ev.bin_add, Ev.bin_sub, Ev.bin_neq, Ev.bin_gtr, Ev.settle, Ev.keep, Ev.varsLo, Ev.marksLo, Ev.storeLo, Ev.SObj.lo, Ev.lo_v, Ev.lo_sl, Ev.lo_fn, Ev.los_nil, ↓Ev.obind, Ev.it1, ↓reduceIte, List.take_succ_cons, List.take_nil, Nat.reduceEqDiff, reduceCtorEq, decide_true, decide_false, Bool.and_self, Bool.false_eq_true, and_self, ne_eq, not_false_eq_true, Nat.lt_add_one, eq_self]
end
open Go.Ev
set_option maxRecDepth 10000
theorem half_bin (s h : Nat) (hh : h = s / 2) : evBin .shr (.v (.int .u64 (s : Int))) (.v (.int .u64 1)) = some (.v (.int .u64 (h : Int))) := by
  subst hh
  show (if (1 : Int) < 0 then none else some (AV.v (.int .u64 ((s : Int).fdiv (2 ^ (min (1 : Int).toNat IntKind.u64.bits)))))) = _
  rw [if_neg (by omega), show (2 : Int) ^ (min (1 : Int).toNat IntKind.u64.bits) = 2 from rfl, Int.fdiv_eq_ediv_of_nonneg _ (by omega)]
  rw [show (s : Int) / 2 = ((s / 2 : Nat) : Int) by omega]
theorem u64_small {n : Nat} (h : n < 2 ^ 63) : IntKind.u64.wrap (n : Int) = (n : Int) := by
  have h3 : IntKind.u64.bits = 64 := rfl
  have h4 : IntKind.u64.signed = false := rfl
  simp only [IntKind.wrap, h3, h4, Bool.false_and, Bool.false_eq_true, if_false]
  omega
theorem i64_small {n : Nat} (h : n < 2 ^ 63) : IntKind.i64.wrap (n : Int) = (n : Int) := w64_small (by omega) (by omega)
section
variable (g : Nat) (cl : Bool) (n : Nat)
theorem merge_find1 (D : List Evt) (x : Evt) (hn : n = D.length) (hb : n < 2 ^ 61) (hk : KeysOk D) (a m b : Nat) (ha : D[a]? = some x) (hmb : m ≤ b) (hbn : b ≤ n) (han : a < n) :
    ∃ y, itB (exec (evL T) itL none c_slices_symMergeCmpFunc_api_SimEvent_L1) (Ev.settle [0, 1, 4, 10, 11] true 1) ⟨[(0, .sl 0 g 0 n cl), (1, (.v (.int .i64 (a)))), (4, (.fn (.func n_evkey_CompareEvents) [] [])), (10, (.v (.int .i64 (m)))), (11, (.v (.int .i64 (b))))], []⟩ [.row 6 ((D).map Evt.r) g] = some y ∧
      ∃ i : Nat, y.1 = .exit 0 ∧ y.2.1.marks = [] ∧ y.2.2 = [.row 6 ((D).map Evt.r) g] ∧ Ev.look y.2.1.vars 0 = some (.sl 0 g 0 n cl) ∧ Ev.look y.2.1.vars 1 = some (.v (.int .i64 (a))) ∧ Ev.look y.2.1.vars 10 = some (.v (.int .i64 (i))) ∧ m ≤ i ∧ i ≤ b ∧ (i = m ∨ ∀ v, D[i - 1]? = some v → leE v x) ∧ (i = b ∨ ∀ v, D[i]? = some v → leE x v) := by
  refine itB_while (τ := Nat × Nat) (fun s => ⟨[(0, .sl 0 g 0 n cl), (1, (.v (.int .i64 (a)))), (4, (.fn (.func n_evkey_CompareEvents) [] [])), (10, (.v (.int .i64 (s.1)))), (11, (.v (.int .i64 (s.2))))], []⟩) (fun _ => [.row 6 ((D).map Evt.r) g]) (fun s => s.2 - s.1)
    (fun s => m ≤ s.1 ∧ s.1 ≤ s.2 ∧ s.2 ≤ b ∧ (s.1 = m ∨ ∀ v, D[s.1 - 1]? = some v → leE v x) ∧ (s.2 = b ∨ ∀ v, D[s.2]? = some v → leE x v)) _ ?_ (m, b) ⟨Nat.le_refl _, hmb, Nat.le_refl _, .inl rfl, .inl rfl⟩
  rintro ⟨i, j⟩ ⟨h1, h2, h3, h4, h5⟩
  simp only at h1 h2 h3 h4 h5 ⊢
  by_cases hij : i < j
  case neg =>
    have c1 : ¬ (i : Int) < (j : Int) := by omega
    right
    simp only [c_slices_symMergeCmpFunc_api_SimEvent_L1, c1, Ev.exec, Ev.evOpers, Ev.evOper, Ev.item_op, Ev.evOp, Ev.Opnd.ev, Ev.Env.get, Ev.Env.set, Ev.look, Ev.bin_lss, ↓Ev.obind, Ev.it1, ↓reduceIte, Nat.reduceEqDiff, reduceCtorEq, decide_false, Bool.false_eq_true, eq_self]
    refine ⟨_, rfl, i, rfl, rfl, rfl, rfl, rfl, rfl, h1, by omega, h4, ?_⟩
    obtain rfl : i = j := by omega
    exact h5
  obtain ⟨h, hh⟩ : ∃ h, h = (i + j) / 2 := ⟨_, rfl⟩
  have c1 : (i : Int) < (j : Int) := by omega
  obtain ⟨y, hy⟩ : ∃ y, D[h]? = some y := ⟨_, List.getElem?_eq_getElem (by omega)⟩
  have w1 : IntKind.i64.wrap ((i : Int) + (j : Int)) = ((i + j : Nat) : Int) := w64_add (by omega)
  have w2 : IntKind.u64.wrap ((i + j : Nat) : Int) = ((i + j : Nat) : Int) := u64_small (by omega)
  have w3 := half_bin (i + j) h hh
  have w4 : IntKind.i64.wrap (h : Int) = (h : Int) := i64_small (by omega)
  have w5 : IntKind.i64.wrap ((h : Int) + 1) = ((h + 1 : Nat) : Int) := w64_add1 (by omega)
  have rh : h < n := by omega
  have kx : x.key.length ≤ 9223372036854775807 := hk x (List.mem_of_getElem? ha)
  have ky : y.key.length ≤ 9223372036854775807 := hk y (List.mem_of_getElem? hy)
  have hc := CompareEvents_evA y x ky kx 6 (D.map Evt.r) g
  left
  by_cases hlt : cmpE y x < 0
  · refine ⟨(h + 1, j), ?_, ⟨by simp only; omega, by simp only; omega, h3, .inr fun v hv => ?_, h5⟩, by simp only; omega⟩
    · obtain ⟨xt, xk, xl, xi, xp, xa⟩ := x
      obtain ⟨yt, yk, yl, yi, yp, ya⟩ := y
      simp only at hc
      simp only [c_slices_symMergeCmpFunc_api_SimEvent_L1, Int.natCast_nonneg, Int.toNat_natCast, List.getElem?_map, Option.map_some, ha, hy, c1, w1, w2, w3, w4, w5, rh, han, hc, hlt, Evt.r, evts_lo, Ev.exec, Ev.evOpers, Ev.evOper, Ev.item_op, Ev.item_v, Ev.evOp, Ev.evs, Ev.Opnd.ev, Ev.Env.get, Ev.Env.set, Ev.look, Ev.cellsAt, Ev.loadC, Ev.bin_add, Ev.bin_lss, Ev.settle, Ev.keep, Ev.varsLo, Ev.marksLo, Ev.storeLo, Ev.SObj.lo, Ev.lo_v, Ev.lo_sl, Ev.lo_fn, Ev.los_nil, ↓Ev.obind, Ev.it1, ↓reduceIte, List.length_cons, List.length_nil, List.getElem?_cons_zero, List.take_succ_cons, List.take_nil, List.drop_zero, List.nil_append, List.append_nil, Nat.reduceAdd, Nat.reduceEqDiff, reduceCtorEq, decide_true, Bool.and_self, and_self, Nat.zero_add, Nat.lt_add_one, Nat.le_refl, eq_self]
    · simp only [Nat.add_sub_cancel] at hv
      rw [hy] at hv; cases hv; exact leE_of y x hlt
  · refine ⟨(i, h), ?_, ⟨h1, by simp only; omega, by simp only; omega, h4, .inr fun v hv => ?_⟩, by simp only; omega⟩
    · obtain ⟨xt, xk, xl, xi, xp, xa⟩ := x
      obtain ⟨yt, yk, yl, yi, yp, ya⟩ := y
      simp only at hc
      simp only [c_slices_symMergeCmpFunc_api_SimEvent_L1, Int.natCast_nonneg, Int.toNat_natCast, List.getElem?_map, Option.map_some, ha, hy, c1, w1, w2, w3, w4, rh, han, hc, hlt, Evt.r, evts_lo, Ev.exec, Ev.evOpers, Ev.evOper, Ev.item_op, Ev.item_v, Ev.evOp, Ev.evs, Ev.Opnd.ev, Ev.Env.get, Ev.Env.set, Ev.look, Ev.cellsAt, Ev.loadC, Ev.bin_add, Ev.bin_lss, Ev.settle, Ev.keep, Ev.varsLo, Ev.marksLo, Ev.storeLo, Ev.SObj.lo, Ev.lo_v, Ev.lo_sl, Ev.lo_fn, Ev.los_nil, ↓Ev.obind, Ev.it1, ↓reduceIte, List.length_cons, List.length_nil, List.getElem?_cons_zero, List.take_succ_cons, List.take_nil, List.drop_zero, List.nil_append, List.append_nil, Nat.reduceAdd, Nat.reduceEqDiff, reduceCtorEq, decide_true, decide_false, Bool.and_self, Bool.false_eq_true, and_self, Nat.zero_add, Nat.lt_add_one, Nat.le_refl, eq_self]
    · simp only at hv
      rw [hy] at hv; cases hv; exact leE_of_not y x hlt
theorem merge_find2 (D : List Evt) (x : Evt) (hn : n = D.length) (hb : n < 2 ^ 61) (hk : KeysOk D) (a m : Nat) (hm : D[m]? = some x) (ham : a ≤ m) (hmn : m < n) :
    ∃ y, itB (exec (evL T) itL none c_slices_symMergeCmpFunc_api_SimEvent_L3) (Ev.settle [0, 2, 4, 14, 15] true 1) ⟨[(0, .sl 0 g 0 n cl), (2, (.v (.int .i64 (m)))), (4, (.fn (.func n_evkey_CompareEvents) [] [])), (14, (.v (.int .i64 (a)))), (15, (.v (.int .i64 (m))))], []⟩ [.row 6 ((D).map Evt.r) g] = some y ∧
      ∃ i : Nat, y.1 = .exit 4 ∧ y.2.1.marks = [] ∧ y.2.2 = [.row 6 ((D).map Evt.r) g] ∧ Ev.look y.2.1.vars 0 = some (.sl 0 g 0 n cl) ∧ Ev.look y.2.1.vars 2 = some (.v (.int .i64 (m))) ∧ Ev.look y.2.1.vars 14 = some (.v (.int .i64 (i))) ∧ a ≤ i ∧ i ≤ m ∧ (i = a ∨ ∀ v, D[i - 1]? = some v → leE v x) ∧ (i = m ∨ ∀ v, D[i]? = some v → leE x v) := by
  refine itB_while (τ := Nat × Nat) (fun s => ⟨[(0, .sl 0 g 0 n cl), (2, (.v (.int .i64 (m)))), (4, (.fn (.func n_evkey_CompareEvents) [] [])), (14, (.v (.int .i64 (s.1)))), (15, (.v (.int .i64 (s.2))))], []⟩) (fun _ => [.row 6 ((D).map Evt.r) g]) (fun s => s.2 - s.1)
    (fun s => a ≤ s.1 ∧ s.1 ≤ s.2 ∧ s.2 ≤ m ∧ (s.1 = a ∨ ∀ v, D[s.1 - 1]? = some v → leE v x) ∧ (s.2 = m ∨ ∀ v, D[s.2]? = some v → leE x v)) _ ?_ (a, m) ⟨Nat.le_refl _, ham, Nat.le_refl _, .inl rfl, .inl rfl⟩
  rintro ⟨i, j⟩ ⟨h1, h2, h3, h4, h5⟩
  simp only at h1 h2 h3 h4 h5 ⊢
  by_cases hij : i < j
  case neg =>
    have c1 : ¬ (i : Int) < (j : Int) := by omega
    right
    simp only [c_slices_symMergeCmpFunc_api_SimEvent_L3, c1, Ev.exec, Ev.evOpers, Ev.evOper, Ev.item_op, Ev.evOp, Ev.Opnd.ev, Ev.Env.get, Ev.Env.set, Ev.look, Ev.bin_lss, ↓Ev.obind, Ev.it1, ↓reduceIte, Nat.reduceEqDiff, reduceCtorEq, decide_false, Bool.false_eq_true, eq_self]
    refine ⟨_, rfl, i, rfl, rfl, rfl, rfl, rfl, rfl, h1, by omega, h4, ?_⟩
    obtain rfl : i = j := by omega
    exact h5
  obtain ⟨h, hh⟩ : ∃ h, h = (i + j) / 2 := ⟨_, rfl⟩
  have c1 : (i : Int) < (j : Int) := by omega
  obtain ⟨y, hy⟩ : ∃ y, D[h]? = some y := ⟨_, List.getElem?_eq_getElem (by omega)⟩
  have w1 : IntKind.i64.wrap ((i : Int) + (j : Int)) = ((i + j : Nat) : Int) := w64_add (by omega)
  have w2 : IntKind.u64.wrap ((i + j : Nat) : Int) = ((i + j : Nat) : Int) := u64_small (by omega)
  have w3 := half_bin (i + j) h hh
  have w4 : IntKind.i64.wrap (h : Int) = (h : Int) := i64_small (by omega)
  have w5 : IntKind.i64.wrap ((h : Int) + 1) = ((h + 1 : Nat) : Int) := w64_add1 (by omega)
  have rh : h < n := by omega
  have kx : x.key.length ≤ 9223372036854775807 := hk x (List.mem_of_getElem? hm)
  have ky : y.key.length ≤ 9223372036854775807 := hk y (List.mem_of_getElem? hy)
  have hc := CompareEvents_evA x y kx ky 6 (D.map Evt.r) g
  left
  by_cases hlt : cmpE x y < 0
  · refine ⟨(i, h), ?_, ⟨h1, by simp only; omega, by simp only; omega, h4, .inr fun v hv => ?_⟩, by simp only; omega⟩
    · obtain ⟨xt, xk, xl, xi, xp, xa⟩ := x
      obtain ⟨yt, yk, yl, yi, yp, ya⟩ := y
      simp only at hc
      simp only [c_slices_symMergeCmpFunc_api_SimEvent_L3, Int.natCast_nonneg, Int.toNat_natCast, List.getElem?_map, Option.map_some, hm, hy, c1, w1, w2, w3, w4, rh, hmn, hc, hlt, Evt.r, evts_lo, Ev.exec, Ev.evOpers, Ev.evOper, Ev.item_op, Ev.item_v, Ev.evOp, Ev.evs, Ev.Opnd.ev, Ev.Env.get, Ev.Env.set, Ev.look, Ev.cellsAt, Ev.loadC, Ev.bin_add, Ev.bin_lss, Ev.settle, Ev.keep, Ev.varsLo, Ev.marksLo, Ev.storeLo, Ev.SObj.lo, Ev.lo_v, Ev.lo_sl, Ev.lo_fn, Ev.los_nil, ↓Ev.obind, Ev.it1, ↓reduceIte, List.length_cons, List.length_nil, List.getElem?_cons_zero, List.take_succ_cons, List.take_nil, List.drop_zero, List.nil_append, List.append_nil, Nat.reduceAdd, Nat.reduceEqDiff, reduceCtorEq, decide_true, Bool.and_self, Bool.not_true, Bool.false_eq_true, and_self, Nat.zero_add, Nat.lt_add_one, Nat.le_refl, eq_self]
    · simp only at hv
      rw [hy] at hv; cases hv; exact leE_of x y hlt
  · refine ⟨(h + 1, j), ?_, ⟨by simp only; omega, by simp only; omega, h3, .inr fun v hv => ?_, h5⟩, by simp only; omega⟩
    · obtain ⟨xt, xk, xl, xi, xp, xa⟩ := x
      obtain ⟨yt, yk, yl, yi, yp, ya⟩ := y
      simp only at hc
      simp only [c_slices_symMergeCmpFunc_api_SimEvent_L3, Int.natCast_nonneg, Int.toNat_natCast, List.getElem?_map, Option.map_some, hm, hy, c1, w1, w2, w3, w4, w5, rh, hmn, hc, hlt, Evt.r, evts_lo, Ev.exec, Ev.evOpers, Ev.evOper, Ev.item_op, Ev.item_v, Ev.evOp, Ev.evs, Ev.Opnd.ev, Ev.Env.get, Ev.Env.set, Ev.look, Ev.cellsAt, Ev.loadC, Ev.bin_add, Ev.bin_lss, Ev.settle, Ev.keep, Ev.varsLo, Ev.marksLo, Ev.storeLo, Ev.SObj.lo, Ev.lo_v, Ev.lo_sl, Ev.lo_fn, Ev.los_nil, ↓Ev.obind, Ev.it1, ↓reduceIte, List.length_cons, List.length_nil, List.getElem?_cons_zero, List.take_succ_cons, List.take_nil, List.drop_zero, List.nil_append, List.append_nil, Nat.reduceAdd, Nat.reduceEqDiff, reduceCtorEq, decide_true, decide_false, Bool.and_self, Bool.not_false, and_self, Nat.zero_add, Nat.lt_add_one, Nat.le_refl, eq_self]
    · simp only [Nat.add_sub_cancel] at hv
      rw [hy] at hv; cases hv; exact leE_of_not x y hlt
theorem merge_find3 (D : List Evt) (hn : n = D.length) (hb : n < 2 ^ 61) (hk : KeysOk D) (a m b mid nn p lo hi : Nat) (hp : nn = p + 1) (hlh : lo ≤ hi) (hdom : ∀ c, lo ≤ c → c < hi → c < n ∧ c ≤ p ∧ p - c < n) (hnn : nn < 2 ^ 62) (hhn : hi ≤ n) :
    ∃ y, itB (exec (evL T) itL none c_slices_symMergeCmpFunc_api_SimEvent_L5) (Ev.settle [0, 1, 2, 3, 4, 18, 19, 20, 21, 22] true 1) ⟨[(0, .sl 0 g 0 n cl), (1, (.v (.int .i64 (a)))), (2, (.v (.int .i64 (m)))), (3, (.v (.int .i64 (b)))), (4, (.fn (.func n_evkey_CompareEvents) [] [])), (18, (.v (.int .i64 (mid)))), (19, (.v (.int .i64 (nn)))), (20, (.v (.int .i64 (lo)))), (21, (.v (.int .i64 (hi)))), (22, (.v (.int .i64 (p))))], []⟩ [.row 6 ((D).map Evt.r) g] = some y ∧
      ∃ i : Nat, y.1 = .exit 8 ∧ y.2.1.marks = [] ∧ y.2.2 = [.row 6 ((D).map Evt.r) g] ∧ Ev.look y.2.1.vars 0 = some (.sl 0 g 0 n cl) ∧ Ev.look y.2.1.vars 1 = some (.v (.int .i64 (a))) ∧ Ev.look y.2.1.vars 2 = some (.v (.int .i64 (m))) ∧ Ev.look y.2.1.vars 3 = some (.v (.int .i64 (b))) ∧ Ev.look y.2.1.vars 4 = some (.fn (.func n_evkey_CompareEvents) [] []) ∧ Ev.look y.2.1.vars 18 = some (.v (.int .i64 (mid))) ∧
        Ev.look y.2.1.vars 19 = some (.v (.int .i64 (nn))) ∧ Ev.look y.2.1.vars 20 = some (.v (.int .i64 (i))) ∧ lo ≤ i ∧ i ≤ hi ∧ (i = lo ∨ ∀ u v, D[i - 1]? = some u → D[p - (i - 1)]? = some v → leE u v) ∧ (i = hi ∨ ∀ u v, D[p - i]? = some u → D[i]? = some v → leE u v) := by
  refine itB_while (τ := Nat × Nat) (fun s => ⟨[(0, .sl 0 g 0 n cl), (1, (.v (.int .i64 (a)))), (2, (.v (.int .i64 (m)))), (3, (.v (.int .i64 (b)))), (4, (.fn (.func n_evkey_CompareEvents) [] [])), (18, (.v (.int .i64 (mid)))), (19, (.v (.int .i64 (nn)))), (20, (.v (.int .i64 (s.1)))), (21, (.v (.int .i64 (s.2)))), (22, (.v (.int .i64 (p))))], []⟩) (fun _ => [.row 6 ((D).map Evt.r) g]) (fun s => s.2 - s.1)
    (fun s => lo ≤ s.1 ∧ s.1 ≤ s.2 ∧ s.2 ≤ hi ∧ (s.1 = lo ∨ ∀ u v, D[s.1 - 1]? = some u → D[p - (s.1 - 1)]? = some v → leE u v) ∧ (s.2 = hi ∨ ∀ u v, D[p - s.2]? = some u → D[s.2]? = some v → leE u v)) _ ?_ (lo, hi) ⟨Nat.le_refl _, hlh, Nat.le_refl _, .inl rfl, .inl rfl⟩
  rintro ⟨i, j⟩ ⟨h1, h2, h3, h4, h5⟩
  simp only at h1 h2 h3 h4 h5 ⊢
  by_cases hij : i < j
  case neg =>
    have c1 : ¬ (i : Int) < (j : Int) := by omega
    right
    simp only [c_slices_symMergeCmpFunc_api_SimEvent_L5, c1, Ev.exec, Ev.evOpers, Ev.evOper, Ev.item_op, Ev.evOp, Ev.Opnd.ev, Ev.Env.get, Ev.Env.set, Ev.look, Ev.bin_lss, ↓Ev.obind, Ev.it1, ↓reduceIte, Nat.reduceEqDiff, reduceCtorEq, decide_false, Bool.false_eq_true, eq_self]
    refine ⟨_, rfl, i, rfl, rfl, rfl, rfl, rfl, rfl, rfl, rfl, rfl, rfl, rfl, h1, by omega, h4, ?_⟩
    obtain rfl : i = j := by omega
    exact h5
  obtain ⟨h, hh⟩ : ∃ h, h = (i + j) / 2 := ⟨_, rfl⟩
  have c1 : (i : Int) < (j : Int) := by omega
  obtain ⟨d1, d2, d3⟩ := hdom h (by omega) (by omega)
  obtain ⟨q, hq⟩ : ∃ q, q = p - h := ⟨_, rfl⟩
  obtain ⟨y, hy⟩ : ∃ y, D[h]? = some y := ⟨_, List.getElem?_eq_getElem (by omega)⟩
  obtain ⟨x, hx⟩ : ∃ x, D[q]? = some x := ⟨_, List.getElem?_eq_getElem (by omega)⟩
  have w1 : IntKind.i64.wrap ((i : Int) + (j : Int)) = ((i + j : Nat) : Int) := w64_add (by omega)
  have w2 : IntKind.u64.wrap ((i + j : Nat) : Int) = ((i + j : Nat) : Int) := u64_small (by omega)
  have w3 := half_bin (i + j) h hh
  have w4 : IntKind.i64.wrap (h : Int) = (h : Int) := i64_small (by omega)
  have w5 : IntKind.i64.wrap ((h : Int) + 1) = ((h + 1 : Nat) : Int) := w64_add1 (by omega)
  have w6 : IntKind.i64.wrap ((p : Int) - (h : Int)) = (q : Int) := w64_sub (by omega) (by omega)
  have rq : q < n := by omega
  have kx : x.key.length ≤ 9223372036854775807 := hk x (List.mem_of_getElem? hx)
  have ky : y.key.length ≤ 9223372036854775807 := hk y (List.mem_of_getElem? hy)
  have hc := CompareEvents_evA x y kx ky 6 (D.map Evt.r) g
  left
  by_cases hlt : cmpE x y < 0
  · refine ⟨(i, h), ?_, ⟨h1, by simp only; omega, by simp only; omega, h4, .inr fun u v hu hv => ?_⟩, by simp only; omega⟩
    · obtain ⟨xt, xk, xl, xi, xp, xa⟩ := x
      obtain ⟨yt, yk, yl, yi, yp, ya⟩ := y
      simp only at hc
      simp only [c_slices_symMergeCmpFunc_api_SimEvent_L5, Int.natCast_nonneg, Int.toNat_natCast, List.getElem?_map, Option.map_some, hx, hy, c1, w1, w2, w3, w4, w6, d1, rq, hc, hlt, Evt.r, evts_lo, Ev.exec, Ev.evOpers, Ev.evOper, Ev.item_op, Ev.item_v, Ev.evOp, Ev.evs, Ev.Opnd.ev, Ev.Env.get, Ev.Env.set, Ev.look, Ev.cellsAt, Ev.loadC, Ev.bin_add, Ev.bin_sub, Ev.bin_lss, Ev.settle, Ev.keep, Ev.varsLo, Ev.marksLo, Ev.storeLo, Ev.SObj.lo, Ev.lo_v, Ev.lo_sl, Ev.lo_fn, Ev.los_nil, ↓Ev.obind, Ev.it1, ↓reduceIte, List.length_cons, List.length_nil, List.getElem?_cons_zero, List.take_succ_cons, List.take_nil, List.drop_zero, List.nil_append, List.append_nil, Nat.reduceAdd, Nat.reduceEqDiff, reduceCtorEq, decide_true, Bool.and_self, Bool.not_true, Bool.false_eq_true, and_self, Nat.zero_add, Nat.lt_add_one, Nat.le_refl, eq_self]
    · simp only at hu hv
      rw [← hq, hx] at hu; cases hu
      rw [hy] at hv; cases hv; exact leE_of x y hlt
  · refine ⟨(h + 1, j), ?_, ⟨by simp only; omega, by simp only; omega, h3, .inr fun u v hu hv => ?_, h5⟩, by simp only; omega⟩
    · obtain ⟨xt, xk, xl, xi, xp, xa⟩ := x
      obtain ⟨yt, yk, yl, yi, yp, ya⟩ := y
      simp only at hc
      simp only [c_slices_symMergeCmpFunc_api_SimEvent_L5, Int.natCast_nonneg, Int.toNat_natCast, List.getElem?_map, Option.map_some, hx, hy, c1, w1, w2, w3, w4, w5, w6, d1, rq, hc, hlt, Evt.r, evts_lo, Ev.exec, Ev.evOpers, Ev.evOper, Ev.item_op, Ev.item_v, Ev.evOp, Ev.evs, Ev.Opnd.ev, Ev.Env.get, Ev.Env.set, Ev.look, Ev.cellsAt, Ev.loadC, Ev.bin_add, Ev.bin_sub, Ev.bin_lss, Ev.settle, Ev.keep, Ev.varsLo, Ev.marksLo, Ev.storeLo, Ev.SObj.lo, Ev.lo_v, Ev.lo_sl, Ev.lo_fn, Ev.los_nil, ↓Ev.obind, Ev.it1, ↓reduceIte, List.length_cons, List.length_nil, List.getElem?_cons_zero, List.take_succ_cons, List.take_nil, List.drop_zero, List.nil_append, List.append_nil, Nat.reduceAdd, Nat.reduceEqDiff, reduceCtorEq, decide_true, decide_false, Bool.and_self, Bool.not_false, and_self, Nat.zero_add, Nat.lt_add_one, Nat.le_refl, eq_self]
    · simp only [Nat.add_sub_cancel] at hu hv
      rw [← hq, hx] at hv; cases hv
      rw [hy] at hu; cases hu; exact leE_of_not x y hlt
end
open Go.Ev
set_option maxRecDepth 10000
section
variable (g : Nat) (cl : Bool) (n : Nat)
theorem merge_move1 (P S Q : List Evt) (x : Evt) (hn : n = (P ++ x :: (S ++ Q)).length) (hb : n < 2 ^ 61) (a i : Nat) (ha : a = P.length) (hi : i = a + S.length + 1) :
    ∃ y, itB (exec (evL T) itL none c_slices_symMergeCmpFunc_api_SimEvent_L2) (Ev.settle [0, 10, 13] true 1) ⟨[(0, .sl 0 g 0 n cl), (10, (.v (.int .i64 (i)))), (13, (.v (.int .i64 (a))))], []⟩ [.row 6 ((P ++ x :: (S ++ Q)).map Evt.r) g] = some y ∧
      (y.1 = .exit 2 ∧ y.2.1.marks = [] ∧ y.2.2 = [.row 6 ((P ++ (S ++ x :: Q)).map Evt.r) g]) := by
  refine itB_while (τ := List Evt × Nat) (fun s => ⟨[(0, .sl 0 g 0 n cl), (10, (.v (.int .i64 (i)))), (13, (.v (.int .i64 (s.2))))], []⟩) (fun s => [.row 6 ((s.1).map Evt.r) g]) (fun s => i - s.2)
    (fun s => ∃ A B, s.1 = P ++ (A ++ x :: (B ++ Q)) ∧ s.2 = a + A.length ∧ A ++ B = S) _ ?_ (P ++ x :: (S ++ Q), a) ⟨[], S, by simp, rfl, by simp⟩
  rintro ⟨D, k⟩ ⟨A, B, hD, hk, hAB⟩
  simp only at hD hk ⊢
  have hlen : n = P.length + (S.length + (Q.length + 1)) := by rw [hn]; simp; omega
  have hSl : S.length = A.length + B.length := by rw [← hAB]; simp
  obtain ⟨i', hi'⟩ : ∃ i', i' = a + S.length := ⟨_, rfl⟩
  have w1 : IntKind.i64.wrap ((i : Int) - 1) = (i' : Int) := w64_sub1 (by omega) (by omega)
  cases B with
  | nil =>
    have h1 : ¬ (k : Int) < (i' : Int) := by simp at hSl; omega
    right
    simp only [c_slices_symMergeCmpFunc_api_SimEvent_L2, w1, h1, Ev.exec, Ev.evOpers, Ev.evOper, Ev.item_op, Ev.evOp, Ev.Opnd.ev, Ev.Env.get, Ev.Env.set, Ev.look, Ev.bin_sub, Ev.bin_lss, ↓Ev.obind, Ev.it1, ↓reduceIte, Nat.reduceEqDiff, reduceCtorEq, decide_false, Bool.false_eq_true, eq_self]
    refine ⟨_, rfl, rfl, rfl, ?_⟩
    rw [hD, ← hAB]; simp
  | cons y B =>
    rw [List.length_cons] at hSl
    have h1 : (k : Int) < (i' : Int) := by omega
    have e1 : D = (P ++ A) ++ x :: y :: (B ++ Q) := by rw [hD]; simp
    have l1 : k = (P ++ A).length := by simp; omega
    obtain ⟨j, hj⟩ : ∃ j, j = k + 1 := ⟨_, rfl⟩
    have gx : D[k]? = some x := get_mid e1 l1
    have gy : D[j]? = some y := get_mid (L := P ++ A ++ [x]) (M := B ++ Q) (by rw [e1]; simp) (by simp; omega)
    have ge : D.length = n := by rw [e1, hlen]; simp; omega
    have w2 : IntKind.i64.wrap ((k : Int) + 1) = (j : Int) := by rw [hj]; exact w64_add1 (by omega)
    have rj : j < n := by omega
    have rk : k < n := by omega
    have sw := swap_next' e1 l1 hj
    have hne : ¬ (k = j) := by omega
    left
    have hlo := evts_lo 1 ((D.set k y).set j x)
    refine ⟨((D.set k y).set j x, j), ?_, ⟨A ++ [y], B, by rw [sw]; simp, by simp; omega, by rw [← hAB]; simp⟩, by simp only; omega⟩
    obtain ⟨xt, xk, xl, xi, xp, xa⟩ := x
    obtain ⟨yt, yk, yl, yi, yp, ya⟩ := y
    have hs : ∀ v, ((D.map Evt.r).set k v)[j]? = some (Evt.r ⟨yt, yk, yl, yi, yp, ya⟩) := fun v => by rw [List.getElem?_set_ne hne, List.getElem?_map, gy]; rfl
    simp only [List.map_set, Evt.r] at hlo
    simp only [c_slices_symMergeCmpFunc_api_SimEvent_L2, Int.natCast_nonneg, Int.toNat_natCast, List.getElem?_map, Option.map_some, gx, gy, hs, h1, w1, w2, rj, rk, hlo, List.map_set, Evt.r, Ev.exec, Ev.evOpers, Ev.evOper, Ev.item_op, Ev.evOp, Ev.Opnd.ev, Ev.Env.get, Ev.Env.set, Ev.look, Ev.cellsAt, Ev.loadC, Ev.AV.cells, Ev.plains, Ev.AV.plain, Ev.bin_add, Ev.bin_sub, Ev.bin_lss, Ev.settle, Ev.keep, Ev.varsLo, Ev.marksLo, Ev.storeLo, Ev.SObj.lo, Ev.lo_v, Ev.lo_sl, ↓Ev.obind, Ev.it1, ↓reduceIte, List.length_cons, List.length_nil, List.getElem?_cons_zero, List.take_succ_cons, List.take_zero, List.take_nil, List.drop_succ_cons, List.drop_zero, List.drop_nil, List.nil_append, List.append_nil, List.set_cons_zero, Nat.reduceAdd, Nat.reduceEqDiff, reduceCtorEq, decide_true, Bool.and_self, and_self, Nat.zero_add, Nat.lt_add_one, Nat.le_refl, eq_self]
theorem merge_move2 (P S Q : List Evt) (x : Evt) (hn : n = (P ++ (S ++ x :: Q)).length) (hb : n < 2 ^ 61) (m i : Nat) (hi : i = P.length) (hm : m = i + S.length) :
    ∃ y, itB (exec (evL T) itL none c_slices_symMergeCmpFunc_api_SimEvent_L4) (Ev.settle [0, 14, 17] true 1) ⟨[(0, .sl 0 g 0 n cl), (14, (.v (.int .i64 (i)))), (17, (.v (.int .i64 (m))))], []⟩ [.row 6 ((P ++ (S ++ x :: Q)).map Evt.r) g] = some y ∧
      (y.1 = .exit 6 ∧ y.2.1.marks = [] ∧ y.2.2 = [.row 6 ((P ++ x :: (S ++ Q)).map Evt.r) g]) := by
  refine itB_while (τ := List Evt × Nat) (fun s => ⟨[(0, .sl 0 g 0 n cl), (14, (.v (.int .i64 (i)))), (17, (.v (.int .i64 (s.2))))], []⟩) (fun s => [.row 6 ((s.1).map Evt.r) g]) (fun s => s.2)
    (fun s => ∃ A B, s.1 = P ++ (A ++ x :: (B ++ Q)) ∧ s.2 = i + A.length ∧ A ++ B = S) _ ?_ (P ++ (S ++ x :: Q), m) ⟨S, [], by simp, hm, by simp⟩
  rintro ⟨D, j⟩ ⟨A, B, hD, hj, hAB⟩
  simp only at hD hj ⊢
  have hlen : n = P.length + (S.length + (Q.length + 1)) := by rw [hn]; simp
  have hSl : S.length = A.length + B.length := by rw [← hAB]; simp
  rcases List.eq_nil_or_concat A with rfl | ⟨A0, y, rfl⟩
  · have h1 : ¬ (j : Int) > (i : Int) := by simp at hj; omega
    right
    simp only [c_slices_symMergeCmpFunc_api_SimEvent_L4, h1, Ev.exec, Ev.evOpers, Ev.evOper, Ev.item_op, Ev.evOp, Ev.Opnd.ev, Ev.Env.get, Ev.Env.set, Ev.look, Ev.bin_gtr, ↓Ev.obind, Ev.it1, ↓reduceIte, Nat.reduceEqDiff, reduceCtorEq, decide_false, Bool.false_eq_true, eq_self]
    refine ⟨_, rfl, rfl, rfl, ?_⟩
    rw [hD, ← hAB]; simp
  · simp only [List.concat_eq_append, List.length_append, List.length_cons, List.length_nil] at hD hj hSl hAB
    obtain ⟨k, hk1⟩ : ∃ k, k = i + A0.length := ⟨_, rfl⟩
    have hjk : j = k + 1 := by omega
    have h1 : (j : Int) > (i : Int) := by omega
    have e1 : D = (P ++ A0) ++ y :: x :: (B ++ Q) := by rw [hD]; simp
    have l1 : k = (P ++ A0).length := by simp; omega
    have gy : D[k]? = some y := get_mid e1 l1
    have gx : D[j]? = some x := get_mid (L := P ++ A0 ++ [y]) (M := B ++ Q) (by rw [e1]; simp) (by simp; omega)
    have ge : D.length = n := by rw [e1, hlen]; simp; omega
    have ws : IntKind.i64.wrap ((j : Int) - 1) = (k : Int) := w64_sub1 hjk (by omega)
    have rj : j < n := by omega
    have rk : k < n := by omega
    have sw := swap_next e1 l1 hjk
    have hne : ¬ (j = k) := by omega
    left
    have hlo := evts_lo 1 ((D.set j y).set k x)
    refine ⟨((D.set j y).set k x, k), ?_, ⟨A0, y :: B, by rw [sw]; simp, hk1, by rw [← hAB]; simp⟩, by simp only; omega⟩
    obtain ⟨xt, xk, xl, xi, xp, xa⟩ := x
    obtain ⟨yt, yk, yl, yi, yp, ya⟩ := y
    have hs : ∀ v, ((D.map Evt.r).set j v)[k]? = some (Evt.r ⟨yt, yk, yl, yi, yp, ya⟩) := fun v => by rw [List.getElem?_set_ne hne, List.getElem?_map, gy]; rfl
    simp only [List.map_set, Evt.r] at hlo
    simp only [c_slices_symMergeCmpFunc_api_SimEvent_L4, Int.natCast_nonneg, Int.toNat_natCast, List.getElem?_map, Option.map_some, gx, gy, hs, h1, ws, rj, rk, hlo, List.map_set, Evt.r, Ev.exec, Ev.evOpers, Ev.evOper, Ev.item_op, Ev.evOp, Ev.Opnd.ev, Ev.Env.get, Ev.Env.set, Ev.look, Ev.cellsAt, Ev.loadC, Ev.AV.cells, Ev.plains, Ev.AV.plain, Ev.bin_sub, Ev.bin_gtr, Ev.settle, Ev.keep, Ev.varsLo, Ev.marksLo, Ev.storeLo, Ev.SObj.lo, Ev.lo_v, Ev.lo_sl, ↓Ev.obind, Ev.it1, ↓reduceIte, List.length_cons, List.length_nil, List.getElem?_cons_zero, List.take_succ_cons, List.take_zero, List.take_nil, List.drop_succ_cons, List.drop_zero, List.drop_nil, List.nil_append, List.append_nil, List.set_cons_zero, Nat.reduceAdd, Nat.reduceEqDiff, reduceCtorEq, decide_true, Bool.and_self, and_self, Nat.zero_add, Nat.lt_add_one, Nat.le_refl, eq_self]
theorem KeysOk.perm {D E : List Evt} (h : KeysOk D) (p : E.Perm D) : KeysOk E := fun x hx => h x (p.mem_iff.1 hx)
theorem merge_one1 (P Y Q : List Evt) (x : Evt) (hY : Y.Pairwise leE) (hY0 : 0 < Y.length) (hn : n = (P ++ x :: (Y ++ Q)).length) (hb : n < 2 ^ 61) (hk : KeysOk (P ++ x :: (Y ++ Q))) (a m b : Nat) (ha : a = P.length) (hm : m = a + 1) (hbb : b = m + Y.length) :
    ∃ Z : List Evt, Z.Perm (x :: Y) ∧ Z.Pairwise leE ∧ (evL T).call n_slices_symMergeCmpFunc_api_SimEvent [.sl 0 g 0 n cl, (.v (.int .i64 (a))), (.v (.int .i64 (m))), (.v (.int .i64 (b))), (.fn (.func n_evkey_CompareEvents) [] [])] [.row 6 ((P ++ x :: (Y ++ Q)).map Evt.r) g] = some (.tup [], [.row 6 ((P ++ (Z ++ Q)).map Evt.r) g]) := by
  have hlen : n = P.length + (1 + (Y.length + Q.length)) := by rw [hn]; simp; omega
  obtain ⟨⟨y, e, σ⟩, k1, i, k2, k3, k4, k5, k6, k7, k8, k9, k10, k11⟩ := merge_find1 g cl n (P ++ x :: (Y ++ Q)) x hn hb hk a m b (get_mid rfl ha) (by omega) (by omega) (by omega)
  simp only at k1 k2 k3 k4 k5 k6 k7
  subst k2; subst k4
  obtain ⟨Y1, Y2, rfl, hY1⟩ : ∃ Y1 Y2, Y = Y1 ++ Y2 ∧ Y1.length = i - m := ⟨Y.take (i - m), Y.drop (i - m), (List.take_append_drop _ _).symm, by simp; omega⟩
  rw [List.length_append] at hbb hlen hY0
  obtain ⟨⟨y', e', σ'⟩, l1, l2, l3, l4⟩ := merge_move1 g cl n P Y1 (Y2 ++ Q) x (by rw [hlen]; simp; omega) hb a i ha (by omega)
  simp only at l1 l2 l3 l4
  subst l2; subst l4
  rw [List.append_assoc] at hk
  refine ⟨Y1 ++ x :: Y2, List.perm_middle, insert_split leE_trans hY ?_ ?_, ?_⟩
  · intro u hu
    rcases k10 with h | h
    · rw [show Y1 = [] from List.eq_nil_of_length_eq_zero (by omega)] at hu; simp at hu
    · have hlt : Y1.length - 1 < Y1.length := (List.getElem?_eq_some_iff.1 hu).1
      refine h u ?_
      rw [← hu]
      exact get_in (L := P ++ [x]) (X := Y1) (M := Y2 ++ Q) (by simp) hlt (by simp; omega)
  · intro v hv
    rcases k11 with h | h
    · rw [show Y2 = [] from List.eq_nil_of_length_eq_zero (by omega)] at hv; simp at hv
    · have hlt : 0 < Y2.length := (List.getElem?_eq_some_iff.1 hv).1
      refine h v ?_
      rw [← hv]
      exact get_in (L := P ++ x :: Y1) (X := Y2) (M := Q) (by simp) hlt (by simp; omega)
  · have c1 : (m : Int) - (a : Int) = 1 := by omega
    have w1 : IntKind.i64.wrap ((m : Int) - (a : Int)) = 1 := by rw [c1]; exact w64_small (by omega) (by omega)
    rw [List.append_assoc] at k1 ⊢
    rw [evL_code ext_slices_symMergeCmpFunc_api_SimEvent code_slices_symMergeCmpFunc_api_SimEvent]
    simp only [List.append_assoc, List.cons_append]
    simp only [c_slices_symMergeCmpFunc_api_SimEvent, w1, k1, k3, k5, k6, k7, l1, l3, evts_lo, Ev.runFunc, Ev.exec, Ev.evOpers, Ev.evOper, Ev.item_op, Ev.evOp, Ev.Opnd.ev, Ev.Env.get, Ev.Env.set, Ev.look, Ev.argVars, Ev.bin_sub, Ev.bin_eql, Ev.resVals, Ev.resOf, Ev.kill, Ev.leave, Ev.settle, Ev.keep, Ev.varsLo, Ev.marksLo, Ev.storeLo, Ev.SObj.lo, Ev.lo_v, Ev.lo_tup, Ev.lo_sl, Ev.lo_fn, Ev.los_nil, ↓Ev.obind, ↓Ev.itL_itB, ↓reduceIte, List.length_cons, List.length_nil, List.take_succ_cons, List.take_nil, Nat.reduceAdd, Nat.reduceEqDiff, reduceCtorEq, decide_true, Bool.and_self, and_self, Nat.zero_add, Nat.lt_add_one, eq_self]
theorem merge_one2 (P X Q : List Evt) (x : Evt) (hX : X.Pairwise leE) (hX0 : 1 < X.length) (hn : n = (P ++ (X ++ x :: Q)).length) (hb : n < 2 ^ 61) (hk : KeysOk (P ++ (X ++ x :: Q))) (a m b : Nat) (ha : a = P.length) (hm : m = a + X.length) (hbb : b = m + 1) :
    ∃ Z : List Evt, Z.Perm (X ++ [x]) ∧ Z.Pairwise leE ∧ (evL T).call n_slices_symMergeCmpFunc_api_SimEvent [.sl 0 g 0 n cl, (.v (.int .i64 (a))), (.v (.int .i64 (m))), (.v (.int .i64 (b))), (.fn (.func n_evkey_CompareEvents) [] [])] [.row 6 ((P ++ (X ++ x :: Q)).map Evt.r) g] = some (.tup [], [.row 6 ((P ++ (Z ++ Q)).map Evt.r) g]) := by
  have hlen : n = P.length + (X.length + (Q.length + 1)) := by rw [hn]; simp
  obtain ⟨⟨y, e, σ⟩, k1, i, k2, k3, k4, k5, k6, k7, k8, k9, k10, k11⟩ := merge_find2 g cl n (P ++ (X ++ x :: Q)) x hn hb hk a m (get_mid (L := P ++ X) (M := Q) (by simp) (by simp; omega)) (by omega) (by omega)
  simp only at k1 k2 k3 k4 k5 k6 k7
  subst k2; subst k4
  obtain ⟨X1, X2, rfl, hX1⟩ : ∃ X1 X2, X = X1 ++ X2 ∧ X1.length = i - a := ⟨X.take (i - a), X.drop (i - a), (List.take_append_drop _ _).symm, by simp; omega⟩
  rw [List.length_append] at hm hlen hX0
  obtain ⟨⟨y', e', σ'⟩, l1, l2, l3, l4⟩ := merge_move2 g cl n (P ++ X1) X2 Q x (by rw [hlen]; simp; omega) hb m i (by simp; omega) (by omega)
  simp only at l1 l2 l3 l4
  subst l2; subst l4
  refine ⟨X1 ++ x :: X2, ?_, insert_split leE_trans hX ?_ ?_, ?_⟩
  · rw [List.append_assoc]
    exact List.Perm.append_left X1 (List.perm_append_singleton x X2).symm
  · intro u hu
    rcases k10 with h | h
    · rw [show X1 = [] from List.eq_nil_of_length_eq_zero (by omega)] at hu; simp at hu
    · have hlt : X1.length - 1 < X1.length := (List.getElem?_eq_some_iff.1 hu).1
      refine h u ?_
      rw [← hu]
      exact get_in (L := P) (X := X1) (M := X2 ++ x :: Q) (by simp) hlt (by omega)
  · intro v hv
    rcases k11 with h | h
    · rw [show X2 = [] from List.eq_nil_of_length_eq_zero (by omega)] at hv; simp at hv
    · have hlt : 0 < X2.length := (List.getElem?_eq_some_iff.1 hv).1
      refine h v ?_
      rw [← hv]
      exact get_in (L := P ++ X1) (X := X2) (M := x :: Q) (by simp) hlt (by simp; omega)
  · have w1 : IntKind.i64.wrap ((m : Int) - (a : Int)) = ((X1.length + X2.length : Nat) : Int) := w64_sub hm (by omega)
    have h1 : ¬ ((X1.length + X2.length : Nat) : Int) = 1 := by omega
    have w2 : IntKind.i64.wrap ((b : Int) - (m : Int)) = 1 := by rw [show (b : Int) - (m : Int) = 1 by omega]; exact w64_small (by omega) (by omega)
    rw [evL_code ext_slices_symMergeCmpFunc_api_SimEvent code_slices_symMergeCmpFunc_api_SimEvent]
    simp only [List.append_assoc, List.cons_append] at k1 l1 ⊢
    simp only [c_slices_symMergeCmpFunc_api_SimEvent, w1, w2, h1, k1, k3, k5, k6, k7, l1, l3, evts_lo, Ev.runFunc, Ev.exec, Ev.evOpers, Ev.evOper, Ev.item_op, Ev.evOp, Ev.Opnd.ev, Ev.Env.get, Ev.Env.set, Ev.look, Ev.argVars, Ev.bin_sub, Ev.bin_eql, Ev.resVals, Ev.resOf, Ev.kill, Ev.leave, Ev.settle, Ev.keep, Ev.varsLo, Ev.marksLo, Ev.storeLo, Ev.SObj.lo, Ev.lo_v, Ev.lo_tup, Ev.lo_sl, Ev.lo_fn, Ev.los_nil, ↓Ev.obind, ↓Ev.itL_itB, ↓reduceIte, List.length_cons, List.length_nil, List.take_succ_cons, List.take_nil, Nat.reduceAdd, Nat.reduceEqDiff, reduceCtorEq, decide_true, decide_false, Bool.and_self, Bool.false_eq_true, and_self, Nat.zero_add, Nat.lt_add_one, eq_self]
end
end Go.Proofs.Ytdphbgnlmffgaaa.K
