/- Part of the proofs about this seat's program (module SLaw3). -/
import Derived.Test.YtnmpkmakkniidaaSLaw2
set_option linter.unusedSectionVars false
set_option linter.unusedSimpArgs false
set_option linter.unusedVariables false
namespace Go.Proofs.Ytnmpkmakkniidaa.K
open Go.Ev
set_option linter.unusedSimpArgs false
set_option linter.unusedVariables false
def isIn (f w : Int) (x : Item) (s : Int × List (List Item)) : Prop := ¬ (x.time < f + s.1 * w ∨ f + 8 * w ≤ x.time)
instance (f w : Int) (x : Item) (s : Int × List (List Item)) : Decidable (isIn f w x s) := by unfold isIn; infer_instance
def outItems (s : Int × List (List Item)) : List Item := match firstNE s.2 with
  | some k => (s.2[k]?).getD []
  | none => []
def outStart (f w : Int) (s : Int × List (List Item)) : Int := match firstNE s.2 with
  | some k => f + k * w
  | none => 0
section
variable {f w : Int} {n : Nat} {s : Int × List (List Item)} (hd : Dim f w) (h : Inv f w n s) (hn : n ≤ 2 ^ 32)
include hd h hn
theorem refPut_state (x : Item) : callZ (evL T) n_ref07_Put [(.agg [(.v (.int .i64 (f))), (.v (.int .i64 (w))), (.v (.int .i64 (s.1))), (.fsl ((s.2).map bucketC) false)]), (.agg [(.v (.int .i64 (x.time))), (.v (.int .i64 (x.seq))), (.v (.int .i64 (x.slot)))])] = some (.tup [(.agg [(.v (.int .i64 (f))), (.v (.int .i64 (w))), (.v (.int .i64 ((putS f w x s).1))), (.fsl (((putS f w x s).2).map bucketC) false)]), (.v (.bool (decide (isIn f w x s))))]) := by
  have e1 := hd.start h.cur
  have e8 := hd.start (i := 8) (by omega)
  by_cases hin : x.time < f + s.1 * w ∨ f + 8 * w ≤ x.time
  · have hnot : ¬ isIn f w x s := fun hh => hh hin
    rw [ref07_Put_no f w s.1 s.2 _ _ _ (by rw [e1, e8]; exact hin)]
    simp only [putS, hin, if_true, hnot, decide_false]
  · have hyes : isIn f w x s := hin
    have hin' := not_or.1 hin
    obtain ⟨p1, p2, p3, p4⟩ := place_ok hd.w.1 h.cur.1 hin'.1 hin'.2
    obtain ⟨b, hb⟩ : ∃ b, s.2[place f w x.time]? = some b := ⟨_, List.getElem?_eq_getElem (by rw [h.len]; exact p2)⟩
    obtain ⟨q1, q2, q3⟩ := h.small hn
    rw [ref07_Put_yes f w s.1 s.2 x (by rw [e1]; exact hin'.1) (by rw [e8]; exact hin'.2) (by have := hd.w; omega) (place_w64 hd h.cur.1 hin'.1 hin'.2) hb q1 (q3 b (List.mem_of_getElem? hb)).2]
    simp only [putS, hin, if_false, hyes, decide_true, hb, Option.getD_some]
theorem rungPut_state (x : Item) : callZ (evL T) n_rung_Put [(.agg [(.v (.int .i64 (f))), (.v (.int .i64 (w))), (.v (.int .i64 (s.1))), (.fsl ((s.2).map bucketC) false)]), (.agg [(.v (.int .i64 (x.time))), (.v (.int .i64 (x.seq))), (.v (.int .i64 (x.slot)))])] = some (.tup [(.agg [(.v (.int .i64 (f))), (.v (.int .i64 (w))), (.v (.int .i64 ((putS f w x s).1))), (.fsl (((putS f w x s).2).map bucketC) false)]), (.v (.bool (decide (isIn f w x s))))]) := by
  have e1 := hd.start h.cur
  have e8 := hd.start (i := 8) (by omega)
  by_cases hin : x.time < f + s.1 * w ∨ f + 8 * w ≤ x.time
  · have hnot : ¬ isIn f w x s := fun hh => hh hin
    rw [rung_Put_no f w s.1 s.2 _ _ _ (by rw [e1, e8]; exact hin)]
    simp only [putS, hin, if_true, hnot, decide_false]
  · have hyes : isIn f w x s := hin
    have hin' := not_or.1 hin
    obtain ⟨p1, p2, p3, p4⟩ := place_ok hd.w.1 h.cur.1 hin'.1 hin'.2
    obtain ⟨b, hb⟩ : ∃ b, s.2[place f w x.time]? = some b := ⟨_, List.getElem?_eq_getElem (by rw [h.len]; exact p2)⟩
    obtain ⟨q1, q2, q3⟩ := h.small hn
    rw [rung_Put_yes f w s.1 s.2 x (by rw [e1]; exact hin'.1) (by rw [e8]; exact hin'.2) (by have := hd.w; omega) (place_w64 hd h.cur.1 hin'.1 hin'.2) hb q1 (q3 b (List.mem_of_getElem? hb)).2]
    simp only [putS, hin, if_false, hyes, decide_true, hb, Option.getD_some]
theorem refNext_state : callZ (evL T) n_ref07_Next [(.agg [(.v (.int .i64 (f))), (.v (.int .i64 (w))), (.v (.int .i64 (s.1))), (.fsl ((s.2).map bucketC) false)])] = some (.tup [(.agg [(.v (.int .i64 (f))), (.v (.int .i64 (w))), (.v (.int .i64 ((nextS' s).1))), (.fsl (((nextS' s).2).map bucketC) false)]), (.fsl (((outItems s)).map Item.c) (firstNE s.2).isNone), (.v (.int .i64 (outStart f w s))), (.v (.bool ((firstNE s.2).isSome)))]) := by
  obtain ⟨q1, q2, q3⟩ := h.small hn
  cases hf : firstNE s.2 with
  | none =>
    rw [ref07_Next_none f w s.1 s.2 q1 hf]
    simp only [nextS', outItems, outStart, hf, List.map_nil, Option.isNone_none, Option.isSome_none]
  | some k =>
    obtain ⟨h1, b, h2, h3⟩ := firstNE_some hf
    have hk : k < 8 := by rw [← h.len]; exact (List.getElem?_eq_some_iff.1 h2).1
    rw [ref07_Next_some f w s.1 s.2 q1 hf h2, hd.start (i := k) (by omega)]
    simp only [nextS', outItems, outStart, hf, h2, Option.getD_some, Option.isNone_some, Option.isSome_some]
theorem rungNext_state : callZ (evL T) n_rung_Next [(.agg [(.v (.int .i64 (f))), (.v (.int .i64 (w))), (.v (.int .i64 (s.1))), (.fsl ((s.2).map bucketC) false)])] = some (.tup [(.agg [(.v (.int .i64 (f))), (.v (.int .i64 (w))), (.v (.int .i64 ((nextS' s).1))), (.fsl (((nextS' s).2).map bucketC) false)]), (.fsl (((outItems s)).map Item.c) (firstNE s.2).isNone), (.v (.int .i64 (outStart f w s))), (.v (.bool ((firstNE s.2).isSome)))]) := by
  obtain ⟨q1, q2, q3⟩ := h.small hn
  cases hf : firstNE s.2 with
  | none =>
    rw [rung_Next_none f w s.1 s.2 q2 hf]
    simp only [nextS', outItems, outStart, hf, List.map_nil, Option.isNone_none, Option.isSome_none]
  | some k =>
    obtain ⟨h1, b, h2, h3⟩ := firstNE_some hf
    have hk : k < 8 := by rw [← h.len]; exact (List.getElem?_eq_some_iff.1 h2).1
    rw [rung_Next_some f w s.1 s.2 q1 hf h2, hd.start (i := k) (by omega)]
    simp only [nextS', outItems, outStart, hf, h2, Option.getD_some, Option.isNone_some, Option.isSome_some]
end
end Go.Proofs.Ytnmpkmakkniidaa.K
