/- Part of the proofs about this seat's program (module SLaw6). -/
import Derived.Test.YtnmpkmakkniidaaSLaw5
set_option linter.unusedSectionVars false
set_option linter.unusedSimpArgs false
set_option linter.unusedVariables false
namespace Go.Proofs.Ytnmpkmakkniidaa.K
open Go.Ev
set_option linter.unusedSimpArgs false
set_option linter.unusedVariables false
section
variable {f w : Int} {n : Nat} {s : Int × List (List Item)} (hd : Dim f w) (h : Inv f w n s) (hn : n ≤ 2 ^ 32)
include h hn
theorem same_state : callZ (evL T) n_ref07_Same [(.agg [(.v (.int .i64 (f))), (.v (.int .i64 (w))), (.v (.int .i64 (s.1))), (.fsl ((s.2).map bucketC) false)]), (.agg [(.v (.int .i64 (f))), (.v (.int .i64 (w))), (.v (.int .i64 (s.1))), (.fsl ((s.2).map bucketC) false)])] = some (.v (.bool (true))) := by
  obtain ⟨q1, q2, q3⟩ := h.small hn
  rw [ref07_Same_ev f w s.1 f w s.1 s.2 s.2 q2 fun b hb => (q3 b hb).1]
  simp
theorem out_small : (outItems s).length < 2 ^ 62 := by
  unfold outItems
  split
  · rename_i k hk
    obtain ⟨_, b, h2, _⟩ := firstNE_some hk
    rw [h2]
    exact ((h.small hn).2.2 b (List.mem_of_getElem? h2)).1
  · simp
theorem sameItems_state (c d : Bool) : callZ (evL T) n_ref07_SameItems [(.fsl (((outItems s)).map Item.c) c), (.fsl (((outItems s)).map Item.c) d)] = some (.v (.bool (true))) := by
  rw [ref07_SameItems_ev _ _ c d (out_small h hn)]
  simp
theorem rungLen_state : callZ (evL T) n_rung_Len [(.agg [(.v (.int .i64 (f))), (.v (.int .i64 (w))), (.v (.int .i64 (s.1))), (.fsl ((s.2).map bucketC) false)])] = some (.v (.int .i64 ((total s.2 : Int)))) := by
  obtain ⟨q1, q2, q3⟩ := h.small hn
  have hp := pairs_length s.2 0
  have := h.tot
  rw [rung_Len_ev f w s.1 s.2 q2 (fun b hb => (q3 b hb).1) (by omega), hp]
theorem refLen_state : callZ (evL T) n_ref07_Len [(.agg [(.v (.int .i64 (f))), (.v (.int .i64 (w))), (.v (.int .i64 (s.1))), (.fsl ((s.2).map bucketC) false)])] = some (.v (.int .i64 ((total s.2 : Int)))) := by
  obtain ⟨q1, q2, q3⟩ := h.small hn
  have := h.tot
  exact ref07_Len_ev f w s.1 s.2 q2 (by omega)
end
theorem law_RungMatchesReference (rf rw_ rc : Int) (rbs : List (List Item)) (x y : Int) (hx : 0 ≤ x) (hy : 0 ≤ y) (l : List Op) (c : Bool) (hok : ∀ o ∈ l, o.ok) (o : Op) (ho : o.ok) :
    callZ (evL T) n_law07_RungMatchesReference [(.agg [(.v (.int .i64 (rf))), (.v (.int .i64 (rw_))), (.v (.int .i64 (rc))), (.fsl ((rbs).map bucketC) false)]), (.v (.int .u64 (x))), (.v (.int .u64 (y))), (.fsl ((l).map Op.c) c), (.agg [(.v (.bool (o.next))), (.v (.int .u64 (o.at_))), (.v (.int .i64 (o.seq)))])] = some (.v (.bool (true))) := by
  have hd := made_dim x y
  have hi := inv_made hd.w.1 l (f := madeF x)
  generalize hs : madeS (madeF x) (madeW y) l = s at hi
  have hmade := law07_Made_ev x y l c hx hy hok
  rw [hs] at hmade
  have hitem := law07_item_ev hd s.1 s.2 o ho
  have h1 := rungPut_state hd hi (by omega) (itemOf (madeF x) (madeW y) o)
  have h2 := refPut_state hd hi (by omega) (itemOf (madeF x) (madeW y) o)
  have h3 := rungNext_state hd hi (by omega)
  have h4 := refNext_state hd hi (by omega)
  have h5 := same_state (hi.put hd.w.1 (itemOf (madeF x) (madeW y) o)) (by omega)
  have h6 := same_state hi.next (by omega)
  have h7 := sameItems_state hi (by omega) (firstNE s.2).isNone (firstNE s.2).isNone
  have h8 := rungLen_state hi (by omega)
  have h9 := refLen_state hi (by omega)
  have h10 : callZ (evL T) n_ref07_Same [(.agg [(.v (.int .i64 ((timeZ x)))), (.v (.int .i64 ((spanZ y)))), (.v (.int .i64 (0))), (.fsl ((List.replicate 8 []).map bucketC) false)]), (.agg [(.v (.int .i64 ((timeZ x)))), (.v (.int .i64 ((spanZ y)))), (.v (.int .i64 (0))), (.fsl ((List.replicate 8 []).map bucketC) false)])] = some (.v (.bool (true))) := by
    rw [ref07_Same_ev _ _ _ _ _ _ _ _ (by simp) (by intro b hb; rw [List.eq_of_mem_replicate hb]; simp)]
    simp
  simp only [List.map_replicate] at h10
  have h13 := law07_Small_ev rf rw_ rc rbs
  have e1 := rung_Current_ev (madeF x) (madeW y) s.1 s.2
  have e2 := ref07_Current_ev (madeF x) (madeW y) s.1 s.2
  have e3 := rung_End_ev (madeF x) (madeW y) s.1 s.2
  have e4 := ref07_End_ev (madeF x) (madeW y) s.1 s.2
  have t1 := law06_Time_ev x hx
  have t2 := law06_Span_ev y hy
  rw [callZ, evL_code ext_law07_RungMatchesReference code_law07_RungMatchesReference]
  cases hsm : smallB rbs with
  | false =>
    rw [hsm] at h13
    simp only [c_law07_RungMatchesReference, law07_head_ev, h13, buckets_lo, ops_lo, Op.c, Go.Ev.runFunc, Go.Ev.runRound, Go.Ev.setParams, Go.Ev.rangeIn, Go.Ev.exec, Go.Ev.evOpers, Go.Ev.evOper, Go.Ev.item_op, Go.Ev.item_P, Go.Ev.item_A, Go.Ev.item_I, Go.Ev.item_v, Go.Ev.impO, Go.Ev.AV.shift, Go.Ev.evOp, Go.Ev.evs, Go.Ev.Opnd.ev, Go.Ev.Env.get, Go.Ev.Env.set, Go.Ev.Env.unset, Go.Ev.look, Go.Ev.argVars, Go.Ev.optInt, Go.Ev.cellsAt, Go.Ev.content, Go.Ev.loadC, Go.Ev.fillP, Go.Ev.fillR, Go.Ev.AV.cells, Go.Ev.AV.uc, Go.Ev.plains, Go.Ev.AV.plain, Go.Ev.bin_add, Go.Ev.bin_sub, Go.Ev.bin_mul, Go.Ev.bin_quo, Go.Ev.bin_rem, Go.Ev.bin_eql, Go.Ev.bin_neq, Go.Ev.bin_lss, Go.Ev.bin_leq, Go.Ev.bin_gtr, Go.Ev.bin_geq, Go.Ev.eqCells, Go.Ev.resVals, Go.Ev.resVal, Go.Ev.resOf, Go.Ev.kill, Go.Ev.leave, Go.Ev.settle, Go.Ev.keep, Go.Ev.varsLo, Go.Ev.marksLo, Go.Ev.storeLo, Go.Ev.SObj.lo, Go.Ev.lo_v, Go.Ev.lo_agg, Go.Ev.lo_tup, Go.Ev.lo_fsl, Go.Ev.lo_fptr, Go.Ev.lo_sl, Go.Ev.lo_ptr, Go.Ev.lo_fn, Go.Ev.lo_yld, Go.Ev.los_nil, Go.Ev.los_cons, Go.Ev.loss_nil, Go.Ev.loss_cons, Go.Ev.okRows_nil, Go.Ev.okRows_cons, Go.Ev.frz_lo, Go.Ev.frz_agg, Go.Ev.frz_tup, Go.Ev.frz_own, Go.Ev.omap_los, Go.Ev.omap_nil, Go.Ev.omap_cons, Go.Ev.loss_replicate, Go.Ev.shiftss_lo, Go.Ev.take_map_len, List.length_set, List.replicate_one, List.replicate_zero, List.length_replicate, List.take_replicate, Nat.min_self, List.take_length, List.length_map, List.map_replicate, ↓Go.Ev.obind, ↓Go.Ev.itL_itB, Go.Ev.it1, ↓reduceIte, List.length_cons, List.length_nil, List.length_append, List.getElem?_cons_zero, List.getElem?_cons_succ, List.getElem?_nil, List.take_succ_cons, List.take_zero, List.take_nil, List.drop_succ_cons, List.drop_zero, List.drop_nil, List.cons_append, List.nil_append, List.append_nil, List.set_cons_zero, List.set_cons_succ, List.set_nil, List.head?_cons, Nat.reduceAdd, Nat.reduceEqDiff, Nat.reduceSub, Nat.reduceMul, Nat.reduceLT, Nat.reduceLeDiff, Nat.reducePow, Int.reduceLE, Int.reduceLT, Int.reduceAdd, Int.reduceSub, Int.reduceMul, Int.reducePow, Int.reduceToNat, Int.reduceEq, Int.reduceNe, Int.cast_ofNat_Int, Int.reduceNeg, reduceCtorEq, decide_true, decide_false, Bool.and_self, Bool.and_true, Bool.true_and, Bool.not_true, Bool.not_false, Bool.false_eq_true, Bool.true_eq_false, and_self, and_true, true_and, ne_eq, not_false_eq_true, not_true_eq_false, List.cons_ne_nil, Nat.zero_add, Nat.add_zero, Nat.lt_add_one, Nat.le_refl, Option.isSome_some, Option.isSome_none, eq_self, beq_self_eq_true, bne_self_eq_false, forall_const, implies_true, Bool.false_and, Bool.and_false, false_and, and_false, false_or, or_false, true_or, or_true]
  | true =>
    rw [hsm] at h13
    have hsm' := hsm
    simp only [smallB, Bool.and_eq_true, decide_eq_true_eq, List.all_eq_true] at hsm'
    have hrb : rbs.length < 2 ^ 62 := by omega
    have hrB : ∀ b ∈ rbs, b.length < 2 ^ 62 := fun b hb => by have := hsm'.2.1 b hb; omega
    have h11 := rung_Valid_ev rf rw_ rc rbs hrb hrB
    have h12 := ref07_Valid_ev rf rw_ rc rbs hrb hrB
    simp only [c_law07_RungMatchesReference, law07_head_ev, h13, hmade, hitem, h1, h2, h3, h4, h5, h6, h7, h8, h9, h10, h11, h12, e1, e2, e3, e4, t1, t2, rung_New_ev, ref07_New_ev, buckets_lo, bucket_lo, items_lo, ops_lo, Op.c, Go.Ev.runFunc, Go.Ev.runRound, Go.Ev.setParams, Go.Ev.rangeIn, Go.Ev.exec, Go.Ev.evOpers, Go.Ev.evOper, Go.Ev.item_op, Go.Ev.item_P, Go.Ev.item_A, Go.Ev.item_I, Go.Ev.item_v, Go.Ev.impO, Go.Ev.AV.shift, Go.Ev.evOp, Go.Ev.evs, Go.Ev.Opnd.ev, Go.Ev.Env.get, Go.Ev.Env.set, Go.Ev.Env.unset, Go.Ev.look, Go.Ev.argVars, Go.Ev.optInt, Go.Ev.cellsAt, Go.Ev.content, Go.Ev.loadC, Go.Ev.fillP, Go.Ev.fillR, Go.Ev.AV.cells, Go.Ev.AV.uc, Go.Ev.plains, Go.Ev.AV.plain, Go.Ev.bin_add, Go.Ev.bin_sub, Go.Ev.bin_mul, Go.Ev.bin_quo, Go.Ev.bin_rem, Go.Ev.bin_eql, Go.Ev.bin_neq, Go.Ev.bin_lss, Go.Ev.bin_leq, Go.Ev.bin_gtr, Go.Ev.bin_geq, Go.Ev.eqCells, Go.Ev.resVals, Go.Ev.resVal, Go.Ev.resOf, Go.Ev.kill, Go.Ev.leave, Go.Ev.settle, Go.Ev.keep, Go.Ev.varsLo, Go.Ev.marksLo, Go.Ev.storeLo, Go.Ev.SObj.lo, Go.Ev.lo_v, Go.Ev.lo_agg, Go.Ev.lo_tup, Go.Ev.lo_fsl, Go.Ev.lo_fptr, Go.Ev.lo_sl, Go.Ev.lo_ptr, Go.Ev.lo_fn, Go.Ev.lo_yld, Go.Ev.los_nil, Go.Ev.los_cons, Go.Ev.loss_nil, Go.Ev.loss_cons, Go.Ev.okRows_nil, Go.Ev.okRows_cons, Go.Ev.frz_lo, Go.Ev.frz_agg, Go.Ev.frz_tup, Go.Ev.frz_own, Go.Ev.omap_los, Go.Ev.omap_nil, Go.Ev.omap_cons, Go.Ev.loss_replicate, Go.Ev.shiftss_lo, Go.Ev.take_map_len, List.length_set, List.replicate_one, List.replicate_zero, List.length_replicate, List.take_replicate, Nat.min_self, List.take_length, List.length_map, List.map_replicate, ↓Go.Ev.obind, ↓Go.Ev.itL_itB, Go.Ev.it1, ↓reduceIte, List.length_cons, List.length_nil, List.length_append, List.getElem?_cons_zero, List.getElem?_cons_succ, List.getElem?_nil, List.take_succ_cons, List.take_zero, List.take_nil, List.drop_succ_cons, List.drop_zero, List.drop_nil, List.cons_append, List.nil_append, List.append_nil, List.set_cons_zero, List.set_cons_succ, List.set_nil, List.head?_cons, Nat.reduceAdd, Nat.reduceEqDiff, Nat.reduceSub, Nat.reduceMul, Nat.reduceLT, Nat.reduceLeDiff, Nat.reducePow, Int.reduceLE, Int.reduceLT, Int.reduceAdd, Int.reduceSub, Int.reduceMul, Int.reducePow, Int.reduceToNat, Int.reduceEq, Int.reduceNe, Int.cast_ofNat_Int, Int.reduceNeg, reduceCtorEq, decide_true, decide_false, Bool.and_self, Bool.and_true, Bool.true_and, Bool.not_true, Bool.not_false, Bool.false_eq_true, Bool.true_eq_false, and_self, and_true, true_and, ne_eq, not_false_eq_true, not_true_eq_false, List.cons_ne_nil, Nat.zero_add, Nat.add_zero, Nat.lt_add_one, Nat.le_refl, Option.isSome_some, Option.isSome_none, eq_self, beq_self_eq_true, bne_self_eq_false, forall_const, implies_true, Bool.false_and, Bool.and_false, false_and, and_false, false_or, or_false, true_or, or_true]
end Go.Proofs.Ytnmpkmakkniidaa.K
