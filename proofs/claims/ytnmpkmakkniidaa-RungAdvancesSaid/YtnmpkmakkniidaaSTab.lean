/-
  THE TABLE OF THE COMPILED FUNCTIONS, AND THAT THEY ARE THE PROGRAM'S (printed by a program of mine).
-/
import Derived.Test.YtnmpkmakkniidaaSK
import Derived.Test.YtnmpkmakkniidaaProg
import Derived.KernelRfl
set_option linter.unusedSectionVars false
set_option linter.unusedSimpArgs false
set_option linter.unusedVariables false
namespace Go.Proofs.Ytnmpkmakkniidaa.K
open Go.Ev
set_option maxRecDepth 100000
theorem ok_law07_RungMatchesReference : comp Try.prog { frz := [5, 9] } n_law07_RungMatchesReference = some c_law07_RungMatchesReference := by kernel_rfl
theorem ok_law07_RungInvariant : comp Try.prog { frz := [7] } n_law07_RungInvariant = some c_law07_RungInvariant := by kernel_rfl
theorem ok_law07_RungOrder : comp Try.prog { loops := [([7, 8, 9, 10, 11], true), ([7, 8, 9, 10, 11, 12, 13, 14, 16, 17], true)] } n_law07_RungOrder = some c_law07_RungOrder := by kernel_rfl
theorem ok_law07_RungAccepts : comp Try.prog { frz := [7] } n_law07_RungAccepts = some c_law07_RungAccepts := by kernel_rfl
theorem ok_law07_RungAdvances : comp Try.prog {  } n_law07_RungAdvances = some c_law07_RungAdvances := by kernel_rfl
theorem ok_law07_head : comp Try.prog {  } n_law07_head = some c_law07_head := by kernel_rfl
theorem ok_law07_Small : comp Try.prog { frz := [1], loops := [([1, 3, 4], true)] } n_law07_Small = some c_law07_Small := by kernel_rfl
theorem ok_law07_Made : comp Try.prog { loops := [([2, 6, 7, 8], true)] } n_law07_Made = some c_law07_Made := by kernel_rfl
theorem ok_law07_item : comp Try.prog { frz := [2, 3] } n_law07_item = some c_law07_item := by kernel_rfl
theorem ok_rung_Put : comp Try.prog { frz := [3], appF := [38] } n_rung_Put = some c_rung_Put := by kernel_rfl
theorem ok_ref07_Put : comp Try.prog { frz := [2, 3], appN := [34], frzv := [41] } n_ref07_Put = some c_ref07_Put := by kernel_rfl
theorem ok_rung_Next : comp Try.prog {  } n_rung_Next = some c_rung_Next := by kernel_rfl
theorem ok_ref07_Next : comp Try.prog { loops := [([1, 2, 6], true)] } n_ref07_Next = some c_ref07_Next := by kernel_rfl
theorem ok_law06_Time : comp Try.prog {  } n_law06_Time = some c_law06_Time := by kernel_rfl
theorem ok_law06_Span : comp Try.prog {  } n_law06_Span = some c_law06_Span := by kernel_rfl
theorem ok_rung_New : comp Try.prog {  } n_rung_New = some c_rung_New := by kernel_rfl
theorem ok_rung_Valid : comp Try.prog { frz := [1], loops := [([1, 2, 3], true)] } n_rung_Valid = some c_rung_Valid := by kernel_rfl
theorem ok_ref07_Valid : comp Try.prog { frz := [1], loops := [([1, 3], true), ([1, 3, 4, 5], true)] } n_ref07_Valid = some c_ref07_Valid := by kernel_rfl
theorem ok_ref07_New : comp Try.prog {  } n_ref07_New = some c_ref07_New := by kernel_rfl
theorem ok_ref07_Same : comp Try.prog { frz := [2, 3], loops := [([2, 3, 5], true)] } n_ref07_Same = some c_ref07_Same := by kernel_rfl
theorem ok_ref07_SameItems : comp Try.prog { loops := [([0, 1, 5], true)] } n_ref07_SameItems = some c_ref07_SameItems := by kernel_rfl
theorem ok_rung_Len : comp Try.prog { frz := [1], loops := [([3], true)] } n_rung_Len = some c_rung_Len := by kernel_rfl
theorem ok_ref07_Len : comp Try.prog { frz := [1], loops := [([1, 3, 4], true)] } n_ref07_Len = some c_ref07_Len := by kernel_rfl
theorem ok_rung_Current : comp Try.prog { frz := [1] } n_rung_Current = some c_rung_Current := by kernel_rfl
theorem ok_ref07_Current : comp Try.prog { frz := [1] } n_ref07_Current = some c_ref07_Current := by kernel_rfl
theorem ok_rung_End : comp Try.prog { frz := [1] } n_rung_End = some c_rung_End := by kernel_rfl
theorem ok_ref07_End : comp Try.prog { frz := [1] } n_ref07_End = some c_ref07_End := by kernel_rfl
theorem ok_bucket_Index : comp Try.prog {  } n_bucket_Index = some c_bucket_Index := by kernel_rfl
theorem ok_slices_Clip_Lapi_Item_api_Item : comp Try.prog {  } n_slices_Clip_Lapi_Item_api_Item = some c_slices_Clip_Lapi_Item_api_Item := by kernel_rfl
theorem ok_rung_replace_Lapi_Item : comp Try.prog { mA := [9] } n_rung_replace_Lapi_Item = some c_rung_replace_Lapi_Item := by kernel_rfl
theorem ok_ref06_Index : comp Try.prog {  } n_ref06_Index = some c_ref06_Index := by kernel_rfl
theorem ok_ref07_with : comp Try.prog { appN := [11], frzv := [16] } n_ref07_with = some c_ref07_with := by kernel_rfl
theorem ok_slices_IndexFunc_LLapi_Item_Lapi_Item : comp Try.prog { loops := [([0, 1, 7, 8], true)] } n_slices_IndexFunc_LLapi_Item_Lapi_Item = some c_slices_IndexFunc_LLapi_Item_Lapi_Item := by kernel_rfl
theorem ok_rung_Next_1 : comp Try.prog {  } n_rung_Next_1 = some c_rung_Next_1 := by kernel_rfl
theorem ok_rung_start : comp Try.prog { frz := [2] } n_rung_start = some c_rung_start := by kernel_rfl
theorem ok_ref06_Start : comp Try.prog {  } n_ref06_Start = some c_ref06_Start := by kernel_rfl
theorem ok_rung_Valid_1 : comp Try.prog {  } n_rung_Valid_1 = some c_rung_Valid_1 := by kernel_rfl
theorem ok_rung_items : comp Try.prog { frz := [1] } n_rung_items = some c_rung_items := by kernel_rfl
theorem ok_bucket_Start : comp Try.prog {  } n_bucket_Start = some c_bucket_Start := by kernel_rfl
theorem ok_rung_items_1 : comp Try.prog { loops := [([0, 8, 9, 10], true), ([0, 3, 8, 9, 10, 15, 16, 17], true)] } n_rung_items_1 = some c_rung_items_1 := by kernel_rfl
theorem okx_slices_Clone_LLapi_Item_Lapi_Item : cloneOf Try.prog n_slices_Clone_LLapi_Item_Lapi_Item = some (1, 24) := by kernel_rfl
def codeL : List (Nat × CFunc) := [(n_law07_RungMatchesReference, c_law07_RungMatchesReference), (n_law07_RungInvariant, c_law07_RungInvariant), (n_law07_RungOrder, c_law07_RungOrder), (n_law07_RungAccepts, c_law07_RungAccepts), (n_law07_RungAdvances, c_law07_RungAdvances), (n_law07_head, c_law07_head), (n_law07_Small, c_law07_Small), (n_law07_Made, c_law07_Made), (n_law07_item, c_law07_item), (n_rung_Put, c_rung_Put), (n_ref07_Put, c_ref07_Put), (n_rung_Next, c_rung_Next), (n_ref07_Next, c_ref07_Next), (n_law06_Time, c_law06_Time), (n_law06_Span, c_law06_Span), (n_rung_New, c_rung_New), (n_rung_Valid, c_rung_Valid), (n_ref07_Valid, c_ref07_Valid), (n_ref07_New, c_ref07_New), (n_ref07_Same, c_ref07_Same), (n_ref07_SameItems, c_ref07_SameItems), (n_rung_Len, c_rung_Len), (n_ref07_Len, c_ref07_Len), (n_rung_Current, c_rung_Current), (n_ref07_Current, c_ref07_Current), (n_rung_End, c_rung_End), (n_ref07_End, c_ref07_End), (n_bucket_Index, c_bucket_Index), (n_slices_Clip_Lapi_Item_api_Item, c_slices_Clip_Lapi_Item_api_Item), (n_rung_replace_Lapi_Item, c_rung_replace_Lapi_Item), (n_ref06_Index, c_ref06_Index), (n_ref07_with, c_ref07_with), (n_slices_IndexFunc_LLapi_Item_Lapi_Item, c_slices_IndexFunc_LLapi_Item_Lapi_Item), (n_rung_Next_1, c_rung_Next_1), (n_rung_start, c_rung_start), (n_ref06_Start, c_ref06_Start), (n_rung_Valid_1, c_rung_Valid_1), (n_rung_items, c_rung_items), (n_bucket_Start, c_bucket_Start), (n_rung_items_1, c_rung_items_1)]
def extL : List (Nat × (Nat × Nat)) := [(n_slices_Clone_LLapi_Item_Lapi_Item, (1, 24))]
def assoc {α : Type} : List (Nat × α) → Nat → Option α
  | [], _ => none
  | (k, x) :: l, i => if k = i then some x else assoc l i
theorem assoc_mem {α : Type} : ∀ {l : List (Nat × α)} {i : Nat} {x : α}, assoc l i = some x → (i, x) ∈ l
  | [], _, _, h => by simp [assoc] at h
  | (k, y) :: l, i, x, h => by
    simp only [assoc] at h
    split at h
    · rename_i hk; subst hk; cases h; simp
    · exact List.mem_cons_of_mem _ (assoc_mem h)
def T : Tab := { code := assoc codeL, ext := fun k => (assoc extL k).map fun p => cloneF p.1 p.2 }
theorem codeL_ok : ∀ x ∈ codeL, ∃ h, comp Try.prog h x.1 = some x.2 := by
  intro x hx
  simp only [codeL, List.mem_cons, List.not_mem_nil, or_false] at hx
  rcases hx with rfl | rfl | rfl | rfl | rfl | rfl | rfl | rfl | rfl | rfl | rfl | rfl | rfl | rfl | rfl | rfl | rfl | rfl | rfl | rfl | rfl | rfl | rfl | rfl | rfl | rfl | rfl | rfl | rfl | rfl | rfl | rfl | rfl | rfl | rfl | rfl | rfl | rfl | rfl | rfl
  · exact ⟨_, ok_law07_RungMatchesReference⟩
  · exact ⟨_, ok_law07_RungInvariant⟩
  · exact ⟨_, ok_law07_RungOrder⟩
  · exact ⟨_, ok_law07_RungAccepts⟩
  · exact ⟨_, ok_law07_RungAdvances⟩
  · exact ⟨_, ok_law07_head⟩
  · exact ⟨_, ok_law07_Small⟩
  · exact ⟨_, ok_law07_Made⟩
  · exact ⟨_, ok_law07_item⟩
  · exact ⟨_, ok_rung_Put⟩
  · exact ⟨_, ok_ref07_Put⟩
  · exact ⟨_, ok_rung_Next⟩
  · exact ⟨_, ok_ref07_Next⟩
  · exact ⟨_, ok_law06_Time⟩
  · exact ⟨_, ok_law06_Span⟩
  · exact ⟨_, ok_rung_New⟩
  · exact ⟨_, ok_rung_Valid⟩
  · exact ⟨_, ok_ref07_Valid⟩
  · exact ⟨_, ok_ref07_New⟩
  · exact ⟨_, ok_ref07_Same⟩
  · exact ⟨_, ok_ref07_SameItems⟩
  · exact ⟨_, ok_rung_Len⟩
  · exact ⟨_, ok_ref07_Len⟩
  · exact ⟨_, ok_rung_Current⟩
  · exact ⟨_, ok_ref07_Current⟩
  · exact ⟨_, ok_rung_End⟩
  · exact ⟨_, ok_ref07_End⟩
  · exact ⟨_, ok_bucket_Index⟩
  · exact ⟨_, ok_slices_Clip_Lapi_Item_api_Item⟩
  · exact ⟨_, ok_rung_replace_Lapi_Item⟩
  · exact ⟨_, ok_ref06_Index⟩
  · exact ⟨_, ok_ref07_with⟩
  · exact ⟨_, ok_slices_IndexFunc_LLapi_Item_Lapi_Item⟩
  · exact ⟨_, ok_rung_Next_1⟩
  · exact ⟨_, ok_rung_start⟩
  · exact ⟨_, ok_ref06_Start⟩
  · exact ⟨_, ok_rung_Valid_1⟩
  · exact ⟨_, ok_rung_items⟩
  · exact ⟨_, ok_bucket_Start⟩
  · exact ⟨_, ok_rung_items_1⟩
theorem extL_ok : ∀ x ∈ extL, cloneOf Try.prog x.1 = some x.2 := by
  intro x hx
  simp only [extL, List.mem_cons, List.not_mem_nil, or_false] at hx
  rcases hx with rfl
  · exact okx_slices_Clone_LLapi_Item_Lapi_Item
theorem mixed : Try.prog.follows .mixedOrders = true := by kernel_rfl
theorem T_ok : TabOk Try.prog T where
  code k f h := codeL_ok _ (assoc_mem h)
  ext k F h := by
    simp only [T, Option.map_eq_some_iff] at h
    obtain ⟨p, h1, rfl⟩ := h
    exact clone_ok mixed (extL_ok _ (assoc_mem h1))
  mixed := mixed
theorem code_law07_RungMatchesReference : T.code n_law07_RungMatchesReference = some c_law07_RungMatchesReference := rfl
theorem code_law07_RungInvariant : T.code n_law07_RungInvariant = some c_law07_RungInvariant := rfl
theorem code_law07_RungOrder : T.code n_law07_RungOrder = some c_law07_RungOrder := rfl
theorem code_law07_RungAccepts : T.code n_law07_RungAccepts = some c_law07_RungAccepts := rfl
theorem code_law07_RungAdvances : T.code n_law07_RungAdvances = some c_law07_RungAdvances := rfl
theorem code_law07_head : T.code n_law07_head = some c_law07_head := rfl
theorem code_law07_Small : T.code n_law07_Small = some c_law07_Small := rfl
theorem code_law07_Made : T.code n_law07_Made = some c_law07_Made := rfl
theorem code_law07_item : T.code n_law07_item = some c_law07_item := rfl
theorem code_rung_Put : T.code n_rung_Put = some c_rung_Put := rfl
theorem code_ref07_Put : T.code n_ref07_Put = some c_ref07_Put := rfl
theorem code_rung_Next : T.code n_rung_Next = some c_rung_Next := rfl
theorem code_ref07_Next : T.code n_ref07_Next = some c_ref07_Next := rfl
theorem code_law06_Time : T.code n_law06_Time = some c_law06_Time := rfl
theorem code_law06_Span : T.code n_law06_Span = some c_law06_Span := rfl
theorem code_rung_New : T.code n_rung_New = some c_rung_New := rfl
theorem code_rung_Valid : T.code n_rung_Valid = some c_rung_Valid := rfl
theorem code_ref07_Valid : T.code n_ref07_Valid = some c_ref07_Valid := rfl
theorem code_ref07_New : T.code n_ref07_New = some c_ref07_New := rfl
theorem code_ref07_Same : T.code n_ref07_Same = some c_ref07_Same := rfl
theorem code_ref07_SameItems : T.code n_ref07_SameItems = some c_ref07_SameItems := rfl
theorem code_rung_Len : T.code n_rung_Len = some c_rung_Len := rfl
theorem code_ref07_Len : T.code n_ref07_Len = some c_ref07_Len := rfl
theorem code_rung_Current : T.code n_rung_Current = some c_rung_Current := rfl
theorem code_ref07_Current : T.code n_ref07_Current = some c_ref07_Current := rfl
theorem code_rung_End : T.code n_rung_End = some c_rung_End := rfl
theorem code_ref07_End : T.code n_ref07_End = some c_ref07_End := rfl
theorem code_bucket_Index : T.code n_bucket_Index = some c_bucket_Index := rfl
theorem code_slices_Clip_Lapi_Item_api_Item : T.code n_slices_Clip_Lapi_Item_api_Item = some c_slices_Clip_Lapi_Item_api_Item := rfl
theorem code_rung_replace_Lapi_Item : T.code n_rung_replace_Lapi_Item = some c_rung_replace_Lapi_Item := rfl
theorem code_ref06_Index : T.code n_ref06_Index = some c_ref06_Index := rfl
theorem code_ref07_with : T.code n_ref07_with = some c_ref07_with := rfl
theorem code_slices_IndexFunc_LLapi_Item_Lapi_Item : T.code n_slices_IndexFunc_LLapi_Item_Lapi_Item = some c_slices_IndexFunc_LLapi_Item_Lapi_Item := rfl
theorem code_rung_Next_1 : T.code n_rung_Next_1 = some c_rung_Next_1 := rfl
theorem code_rung_start : T.code n_rung_start = some c_rung_start := rfl
theorem code_ref06_Start : T.code n_ref06_Start = some c_ref06_Start := rfl
theorem code_rung_Valid_1 : T.code n_rung_Valid_1 = some c_rung_Valid_1 := rfl
theorem code_rung_items : T.code n_rung_items = some c_rung_items := rfl
theorem code_bucket_Start : T.code n_bucket_Start = some c_bucket_Start := rfl
theorem code_rung_items_1 : T.code n_rung_items_1 = some c_rung_items_1 := rfl
theorem ext_law07_RungMatchesReference : T.ext n_law07_RungMatchesReference = none := rfl
theorem ext_law07_RungInvariant : T.ext n_law07_RungInvariant = none := rfl
theorem ext_law07_RungOrder : T.ext n_law07_RungOrder = none := rfl
theorem ext_law07_RungAccepts : T.ext n_law07_RungAccepts = none := rfl
theorem ext_law07_RungAdvances : T.ext n_law07_RungAdvances = none := rfl
theorem ext_law07_head : T.ext n_law07_head = none := rfl
theorem ext_law07_Small : T.ext n_law07_Small = none := rfl
theorem ext_law07_Made : T.ext n_law07_Made = none := rfl
theorem ext_law07_item : T.ext n_law07_item = none := rfl
theorem ext_rung_Put : T.ext n_rung_Put = none := rfl
theorem ext_ref07_Put : T.ext n_ref07_Put = none := rfl
theorem ext_rung_Next : T.ext n_rung_Next = none := rfl
theorem ext_ref07_Next : T.ext n_ref07_Next = none := rfl
theorem ext_law06_Time : T.ext n_law06_Time = none := rfl
theorem ext_law06_Span : T.ext n_law06_Span = none := rfl
theorem ext_rung_New : T.ext n_rung_New = none := rfl
theorem ext_rung_Valid : T.ext n_rung_Valid = none := rfl
theorem ext_ref07_Valid : T.ext n_ref07_Valid = none := rfl
theorem ext_ref07_New : T.ext n_ref07_New = none := rfl
theorem ext_ref07_Same : T.ext n_ref07_Same = none := rfl
theorem ext_ref07_SameItems : T.ext n_ref07_SameItems = none := rfl
theorem ext_rung_Len : T.ext n_rung_Len = none := rfl
theorem ext_ref07_Len : T.ext n_ref07_Len = none := rfl
theorem ext_rung_Current : T.ext n_rung_Current = none := rfl
theorem ext_ref07_Current : T.ext n_ref07_Current = none := rfl
theorem ext_rung_End : T.ext n_rung_End = none := rfl
theorem ext_ref07_End : T.ext n_ref07_End = none := rfl
theorem ext_bucket_Index : T.ext n_bucket_Index = none := rfl
theorem ext_slices_Clip_Lapi_Item_api_Item : T.ext n_slices_Clip_Lapi_Item_api_Item = none := rfl
theorem ext_rung_replace_Lapi_Item : T.ext n_rung_replace_Lapi_Item = none := rfl
theorem ext_ref06_Index : T.ext n_ref06_Index = none := rfl
theorem ext_ref07_with : T.ext n_ref07_with = none := rfl
theorem ext_slices_IndexFunc_LLapi_Item_Lapi_Item : T.ext n_slices_IndexFunc_LLapi_Item_Lapi_Item = none := rfl
theorem ext_rung_Next_1 : T.ext n_rung_Next_1 = none := rfl
theorem ext_rung_start : T.ext n_rung_start = none := rfl
theorem ext_ref06_Start : T.ext n_ref06_Start = none := rfl
theorem ext_rung_Valid_1 : T.ext n_rung_Valid_1 = none := rfl
theorem ext_rung_items : T.ext n_rung_items = none := rfl
theorem ext_bucket_Start : T.ext n_bucket_Start = none := rfl
theorem ext_rung_items_1 : T.ext n_rung_items_1 = none := rfl
theorem ext_slices_Clone_LLapi_Item_Lapi_Item : T.ext n_slices_Clone_LLapi_Item_Lapi_Item = some (cloneF 1 24) := rfl
end Go.Proofs.Ytnmpkmakkniidaa.K
