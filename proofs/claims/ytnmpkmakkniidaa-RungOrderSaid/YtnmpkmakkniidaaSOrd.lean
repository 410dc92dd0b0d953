/- Part of the proofs about this seat's program (module SOrd). -/
import Derived.Test.YtnmpkmakkniidaaSAcc
set_option linter.unusedSectionVars false
set_option linter.unusedSimpArgs false
set_option linter.unusedVariables false
namespace Go.Proofs.Ytnmpkmakkniidaa.K
open Go.Ev
set_option linter.unusedSimpArgs false
set_option linter.unusedVariables false
section
variable (f w n last st i : Int) (s s' : Int × List (List Item)) (b : List Item)
theorem order_inner (hb : b.length < 2 ^ 62) (hw : st + w < 2 ^ 63) (hw0 : -2 ^ 63 ≤ st + w) (hl : i = 0 ∨ ∀ z ∈ b, last < z.time) (hz : ∀ z ∈ b, st ≤ z.time ∧ z.time < st + w) (hlast : last < st + w) :
    ∃ y, itB (exec (evL T) itL none c_law07_RungOrder_L2) (Ev.settle [7, 8, 9, 10, 11, 12, 13, 14, 16, 17] true 2) ⟨[(7, (.v (.bool (true)))), (8, .ptr 0 0 0 0), (9, (.v (.int .i64 (n)))), (10, (.v (.int .i64 (last)))), (11, (.v (.int .i64 (i)))), (12, .ptr 1 0 0 0), (13, (.fsl ((b).map Item.c) false)), (14, (.v (.int .i64 (st)))), (16, (.v (.int .i64 (last)))), (17, (.v (.int .i64 (0))))], []⟩ [.row 4 [[(.v (.int .i64 (f))), (.v (.int .i64 (w))), (.v (.int .i64 (s.1))), (.fsl ((s.2).map bucketC) false)]] 0, .row 4 [[(.v (.int .i64 (f))), (.v (.int .i64 (w))), (.v (.int .i64 (s'.1))), (.fsl ((s'.2).map bucketC) false)]] 0] = some y ∧ y.1 = .exit 2 ∧ y.2.2 = [.row 4 [[(.v (.int .i64 (f))), (.v (.int .i64 (w))), (.v (.int .i64 (s.1))), (.fsl ((s.2).map bucketC) false)]] 0, .row 4 [[(.v (.int .i64 (f))), (.v (.int .i64 (w))), (.v (.int .i64 (s'.1))), (.fsl ((s'.2).map bucketC) false)]] 0] ∧ y.2.1.marks = [] ∧
      Ev.look y.2.1.vars 7 = some (.v (.bool (true))) ∧ Ev.look y.2.1.vars 8 = some (.ptr 0 0 0 0) ∧ Ev.look y.2.1.vars 9 = some (.v (.int .i64 (n))) ∧ Ev.look y.2.1.vars 11 = some (.v (.int .i64 (i))) ∧ Ev.look y.2.1.vars 12 = some (.ptr 1 0 0 0) ∧
      Ev.look y.2.1.vars 13 = some (.fsl ((b).map Item.c) false) ∧ ∃ hi : Int, Ev.look y.2.1.vars 16 = some (.v (.int .i64 (hi))) ∧ last ≤ hi ∧ hi < st + w := by
  have hw' : IntKind.i64.wrap (st + w) = st + w := w64_small (by omega) (by omega)
  have := itB_for (f := exec (evL T) itL none c_law07_RungOrder_L2) (s := Ev.settle [7, 8, 9, 10, 11, 12, 13, 14, 16, 17] true 2) (α := Int) (fun k hi => ⟨[(7, (.v (.bool (true)))), (8, .ptr 0 0 0 0), (9, (.v (.int .i64 (n)))), (10, (.v (.int .i64 (last)))), (11, (.v (.int .i64 (i)))), (12, .ptr 1 0 0 0), (13, (.fsl ((b).map Item.c) false)), (14, (.v (.int .i64 (st)))), (16, (.v (.int .i64 (hi)))), (17, (.v (.int .i64 ((k : Int)))))], []⟩) (fun _ _ => [.row 4 [[(.v (.int .i64 (f))), (.v (.int .i64 (w))), (.v (.int .i64 (s.1))), (.fsl ((s.2).map bucketC) false)]] 0, .row 4 [[(.v (.int .i64 (f))), (.v (.int .i64 (w))), (.v (.int .i64 (s'.1))), (.fsl ((s'.2).map bucketC) false)]] 0])
    (fun k hi => last ≤ hi ∧ hi < st + w) b.length (fun y => y.1 = .exit 2 ∧ y.2.2 = [.row 4 [[(.v (.int .i64 (f))), (.v (.int .i64 (w))), (.v (.int .i64 (s.1))), (.fsl ((s.2).map bucketC) false)]] 0, .row 4 [[(.v (.int .i64 (f))), (.v (.int .i64 (w))), (.v (.int .i64 (s'.1))), (.fsl ((s'.2).map bucketC) false)]] 0] ∧ y.2.1.marks = [] ∧
      Ev.look y.2.1.vars 7 = some (.v (.bool (true))) ∧ Ev.look y.2.1.vars 8 = some (.ptr 0 0 0 0) ∧ Ev.look y.2.1.vars 9 = some (.v (.int .i64 (n))) ∧ Ev.look y.2.1.vars 11 = some (.v (.int .i64 (i))) ∧ Ev.look y.2.1.vars 12 = some (.ptr 1 0 0 0) ∧
      Ev.look y.2.1.vars 13 = some (.fsl ((b).map Item.c) false) ∧ ∃ hi : Int, Ev.look y.2.1.vars 16 = some (.v (.int .i64 (hi))) ∧ last ≤ hi ∧ hi < st + w) ?_ ?_ 0 last (Nat.zero_le _) (by omega)
  · exact this
  · rintro k hi hk ⟨q1, q2⟩
    obtain ⟨z, hz'⟩ : ∃ z, b[k]? = some z := ⟨_, List.getElem?_eq_getElem hk⟩
    have hk' : (k : Int) < (b.length : Int) := by omega
    have hwk : IntKind.i64.wrap ((k : Int) + 1) = (k : Int) + 1 := w64_small (by omega) (by omega)
    obtain ⟨z1, z2⟩ := hz z (List.mem_of_getElem? hz')
    have n1 : ¬ z.time < st := by omega
    have n2 : ¬ z.time ≥ st + w := by omega
    left
    by_cases c1 : z.time ≤ last
    · have c2 : ¬ i > 0 := by
        rcases hl with rfl | hl
        · omega
        · have := hl z (List.mem_of_getElem? hz'); omega
      refine ⟨if z.time > hi then z.time else hi, ?_, by split <;> omega, by split <;> omega⟩
      simp only [c_law07_RungOrder_L2, Go.Ev.runFunc, Go.Ev.runRound, Go.Ev.setParams, Go.Ev.rangeIn, Go.Ev.exec, Go.Ev.evOpers, Go.Ev.evOper, Go.Ev.item_op, Go.Ev.item_P, Go.Ev.item_A, Go.Ev.item_I, Go.Ev.item_v, Go.Ev.impO, Go.Ev.AV.shift, Go.Ev.evOp, Go.Ev.evs, Go.Ev.Opnd.ev, Go.Ev.Env.get, Go.Ev.Env.set, Go.Ev.Env.unset, Go.Ev.look, Go.Ev.argVars, Go.Ev.optInt, Go.Ev.cellsAt, Go.Ev.content, Go.Ev.loadC, Go.Ev.fillP, Go.Ev.fillR, Go.Ev.AV.cells, Go.Ev.AV.uc, Go.Ev.plains, Go.Ev.AV.plain, Go.Ev.bin_add, Go.Ev.bin_sub, Go.Ev.bin_mul, Go.Ev.bin_quo, Go.Ev.bin_rem, Go.Ev.bin_eql, Go.Ev.bin_neq, Go.Ev.bin_lss, Go.Ev.bin_leq, Go.Ev.bin_gtr, Go.Ev.bin_geq, Go.Ev.eqCells, Go.Ev.resVals, Go.Ev.resVal, Go.Ev.resOf, Go.Ev.kill, Go.Ev.leave, Go.Ev.settle, Go.Ev.keep, Go.Ev.varsLo, Go.Ev.marksLo, Go.Ev.storeLo, Go.Ev.SObj.lo, Go.Ev.lo_v, Go.Ev.lo_agg, Go.Ev.lo_tup, Go.Ev.lo_fsl, Go.Ev.lo_fptr, Go.Ev.lo_sl, Go.Ev.lo_ptr, Go.Ev.lo_fn, Go.Ev.lo_yld, Go.Ev.los_nil, Go.Ev.los_cons, Go.Ev.loss_nil, Go.Ev.loss_cons, Go.Ev.okRows_nil, Go.Ev.okRows_cons, Go.Ev.frz_lo, Go.Ev.frz_agg, Go.Ev.frz_tup, Go.Ev.frz_own, Go.Ev.omap_los, Go.Ev.omap_nil, Go.Ev.omap_cons, Go.Ev.loss_replicate, Go.Ev.shiftss_lo, Go.Ev.take_map_len, List.length_set, List.replicate_one, List.replicate_zero, List.length_replicate, List.take_replicate, Nat.min_self, List.take_length, List.length_map, List.map_replicate, ↓Go.Ev.obind, ↓Go.Ev.itL_itB, Go.Ev.it1, ↓reduceIte, List.length_cons, List.length_nil, List.length_append, List.getElem?_cons_zero, List.getElem?_cons_succ, List.getElem?_nil, List.take_succ_cons, List.take_zero, List.take_nil, List.drop_succ_cons, List.drop_zero, List.drop_nil, List.cons_append, List.nil_append, List.append_nil, List.set_cons_zero, List.set_cons_succ, List.set_nil, List.head?_cons, Nat.reduceAdd, Nat.reduceEqDiff, Nat.reduceSub, Nat.reduceMul, Nat.reduceLT, Nat.reduceLeDiff, Nat.reducePow, Int.reduceLE, Int.reduceLT, Int.reduceAdd, Int.reduceSub, Int.reduceMul, Int.reducePow, Int.reduceToNat, Int.reduceEq, Int.reduceNe, Int.cast_ofNat_Int, Int.reduceNeg, reduceCtorEq, decide_true, decide_false, Bool.and_self, Bool.and_true, Bool.true_and, Bool.not_true, Bool.not_false, Bool.false_eq_true, Bool.true_eq_false, and_self, and_true, true_and, ne_eq, not_false_eq_true, not_true_eq_false, List.cons_ne_nil, Nat.zero_add, Nat.add_zero, Nat.lt_add_one, Nat.le_refl, Option.isSome_some, Option.isSome_none, eq_self, beq_self_eq_true, bne_self_eq_false, forall_const, implies_true, Bool.false_and, Bool.and_false, false_and, and_false, false_or, or_false, true_or, or_true, Int.natCast_nonneg, Int.toNat_natCast, List.getElem?_map, hz', Option.map_some, hk', hwk, hw', c1, c2, n1, n2, Item.c, buckets_lo, items_lo]
      rfl
    · refine ⟨if z.time > hi then z.time else hi, ?_, by split <;> omega, by split <;> omega⟩
      simp only [c_law07_RungOrder_L2, Go.Ev.runFunc, Go.Ev.runRound, Go.Ev.setParams, Go.Ev.rangeIn, Go.Ev.exec, Go.Ev.evOpers, Go.Ev.evOper, Go.Ev.item_op, Go.Ev.item_P, Go.Ev.item_A, Go.Ev.item_I, Go.Ev.item_v, Go.Ev.impO, Go.Ev.AV.shift, Go.Ev.evOp, Go.Ev.evs, Go.Ev.Opnd.ev, Go.Ev.Env.get, Go.Ev.Env.set, Go.Ev.Env.unset, Go.Ev.look, Go.Ev.argVars, Go.Ev.optInt, Go.Ev.cellsAt, Go.Ev.content, Go.Ev.loadC, Go.Ev.fillP, Go.Ev.fillR, Go.Ev.AV.cells, Go.Ev.AV.uc, Go.Ev.plains, Go.Ev.AV.plain, Go.Ev.bin_add, Go.Ev.bin_sub, Go.Ev.bin_mul, Go.Ev.bin_quo, Go.Ev.bin_rem, Go.Ev.bin_eql, Go.Ev.bin_neq, Go.Ev.bin_lss, Go.Ev.bin_leq, Go.Ev.bin_gtr, Go.Ev.bin_geq, Go.Ev.eqCells, Go.Ev.resVals, Go.Ev.resVal, Go.Ev.resOf, Go.Ev.kill, Go.Ev.leave, Go.Ev.settle, Go.Ev.keep, Go.Ev.varsLo, Go.Ev.marksLo, Go.Ev.storeLo, Go.Ev.SObj.lo, Go.Ev.lo_v, Go.Ev.lo_agg, Go.Ev.lo_tup, Go.Ev.lo_fsl, Go.Ev.lo_fptr, Go.Ev.lo_sl, Go.Ev.lo_ptr, Go.Ev.lo_fn, Go.Ev.lo_yld, Go.Ev.los_nil, Go.Ev.los_cons, Go.Ev.loss_nil, Go.Ev.loss_cons, Go.Ev.okRows_nil, Go.Ev.okRows_cons, Go.Ev.frz_lo, Go.Ev.frz_agg, Go.Ev.frz_tup, Go.Ev.frz_own, Go.Ev.omap_los, Go.Ev.omap_nil, Go.Ev.omap_cons, Go.Ev.loss_replicate, Go.Ev.shiftss_lo, Go.Ev.take_map_len, List.length_set, List.replicate_one, List.replicate_zero, List.length_replicate, List.take_replicate, Nat.min_self, List.take_length, List.length_map, List.map_replicate, ↓Go.Ev.obind, ↓Go.Ev.itL_itB, Go.Ev.it1, ↓reduceIte, List.length_cons, List.length_nil, List.length_append, List.getElem?_cons_zero, List.getElem?_cons_succ, List.getElem?_nil, List.take_succ_cons, List.take_zero, List.take_nil, List.drop_succ_cons, List.drop_zero, List.drop_nil, List.cons_append, List.nil_append, List.append_nil, List.set_cons_zero, List.set_cons_succ, List.set_nil, List.head?_cons, Nat.reduceAdd, Nat.reduceEqDiff, Nat.reduceSub, Nat.reduceMul, Nat.reduceLT, Nat.reduceLeDiff, Nat.reducePow, Int.reduceLE, Int.reduceLT, Int.reduceAdd, Int.reduceSub, Int.reduceMul, Int.reducePow, Int.reduceToNat, Int.reduceEq, Int.reduceNe, Int.cast_ofNat_Int, Int.reduceNeg, reduceCtorEq, decide_true, decide_false, Bool.and_self, Bool.and_true, Bool.true_and, Bool.not_true, Bool.not_false, Bool.false_eq_true, Bool.true_eq_false, and_self, and_true, true_and, ne_eq, not_false_eq_true, not_true_eq_false, List.cons_ne_nil, Nat.zero_add, Nat.add_zero, Nat.lt_add_one, Nat.le_refl, Option.isSome_some, Option.isSome_none, eq_self, beq_self_eq_true, bne_self_eq_false, forall_const, implies_true, Bool.false_and, Bool.and_false, false_and, and_false, false_or, or_false, true_or, or_true, Int.natCast_nonneg, Int.toNat_natCast, List.getElem?_map, hz', Option.map_some, hk', hwk, hw', c1, n1, n2, Item.c, buckets_lo, items_lo]
      rfl
  · rintro hi ⟨q1, q2⟩
    simp only [c_law07_RungOrder_L2, Go.Ev.runFunc, Go.Ev.runRound, Go.Ev.setParams, Go.Ev.rangeIn, Go.Ev.exec, Go.Ev.evOpers, Go.Ev.evOper, Go.Ev.item_op, Go.Ev.item_P, Go.Ev.item_A, Go.Ev.item_I, Go.Ev.item_v, Go.Ev.impO, Go.Ev.AV.shift, Go.Ev.evOp, Go.Ev.evs, Go.Ev.Opnd.ev, Go.Ev.Env.get, Go.Ev.Env.set, Go.Ev.Env.unset, Go.Ev.look, Go.Ev.argVars, Go.Ev.optInt, Go.Ev.cellsAt, Go.Ev.content, Go.Ev.loadC, Go.Ev.fillP, Go.Ev.fillR, Go.Ev.AV.cells, Go.Ev.AV.uc, Go.Ev.plains, Go.Ev.AV.plain, Go.Ev.bin_add, Go.Ev.bin_sub, Go.Ev.bin_mul, Go.Ev.bin_quo, Go.Ev.bin_rem, Go.Ev.bin_eql, Go.Ev.bin_neq, Go.Ev.bin_lss, Go.Ev.bin_leq, Go.Ev.bin_gtr, Go.Ev.bin_geq, Go.Ev.eqCells, Go.Ev.resVals, Go.Ev.resVal, Go.Ev.resOf, Go.Ev.kill, Go.Ev.leave, Go.Ev.settle, Go.Ev.keep, Go.Ev.varsLo, Go.Ev.marksLo, Go.Ev.storeLo, Go.Ev.SObj.lo, Go.Ev.lo_v, Go.Ev.lo_agg, Go.Ev.lo_tup, Go.Ev.lo_fsl, Go.Ev.lo_fptr, Go.Ev.lo_sl, Go.Ev.lo_ptr, Go.Ev.lo_fn, Go.Ev.lo_yld, Go.Ev.los_nil, Go.Ev.los_cons, Go.Ev.loss_nil, Go.Ev.loss_cons, Go.Ev.okRows_nil, Go.Ev.okRows_cons, Go.Ev.frz_lo, Go.Ev.frz_agg, Go.Ev.frz_tup, Go.Ev.frz_own, Go.Ev.omap_los, Go.Ev.omap_nil, Go.Ev.omap_cons, Go.Ev.loss_replicate, Go.Ev.shiftss_lo, Go.Ev.take_map_len, List.length_set, List.replicate_one, List.replicate_zero, List.length_replicate, List.take_replicate, Nat.min_self, List.take_length, List.length_map, List.map_replicate, ↓Go.Ev.obind, ↓Go.Ev.itL_itB, Go.Ev.it1, ↓reduceIte, List.length_cons, List.length_nil, List.length_append, List.getElem?_cons_zero, List.getElem?_cons_succ, List.getElem?_nil, List.take_succ_cons, List.take_zero, List.take_nil, List.drop_succ_cons, List.drop_zero, List.drop_nil, List.cons_append, List.nil_append, List.append_nil, List.set_cons_zero, List.set_cons_succ, List.set_nil, List.head?_cons, Nat.reduceAdd, Nat.reduceEqDiff, Nat.reduceSub, Nat.reduceMul, Nat.reduceLT, Nat.reduceLeDiff, Nat.reducePow, Int.reduceLE, Int.reduceLT, Int.reduceAdd, Int.reduceSub, Int.reduceMul, Int.reducePow, Int.reduceToNat, Int.reduceEq, Int.reduceNe, Int.cast_ofNat_Int, Int.reduceNeg, reduceCtorEq, decide_true, decide_false, Bool.and_self, Bool.and_true, Bool.true_and, Bool.not_true, Bool.not_false, Bool.false_eq_true, Bool.true_eq_false, and_self, and_true, true_and, ne_eq, not_false_eq_true, not_true_eq_false, List.cons_ne_nil, Nat.zero_add, Nat.add_zero, Nat.lt_add_one, Nat.le_refl, Option.isSome_some, Option.isSome_none, eq_self, beq_self_eq_true, bne_self_eq_false, forall_const, implies_true, Bool.false_and, Bool.and_false, false_and, and_false, false_or, or_false, true_or, or_true, Int.lt_irrefl]
    exact ⟨_, rfl, rfl, rfl, rfl, rfl, rfl, rfl, rfl, rfl, rfl, hi, rfl, q1, q2⟩
end
section
variable (f w : Int) (hd : Dim f w)
include hd
theorem order_none (s : Int × List (List Item)) (last i : Int) (h : Inv f w 100 s) (hi : i < 9) (hn : firstNE s.2 = none) :
    ∃ y, it1 (exec (evL T) itL none c_law07_RungOrder_L1) (Ev.settle [7, 8, 9, 10, 11] true 1) ⟨[(7, (.v (.bool (true)))), (8, .ptr 0 0 0 0), (9, (.v (.int .i64 (total s.2)))), (10, (.v (.int .i64 (last)))), (11, (.v (.int .i64 (i))))], []⟩ [.row 4 [[(.v (.int .i64 (f))), (.v (.int .i64 (w))), (.v (.int .i64 (s.1))), (.fsl ((s.2).map bucketC) false)]] 0] = some (.inr y) ∧ y.1 = .ret ∧ y.2.1.marks = [] ∧ Ev.look y.2.1.vars 6 = some (.v (.bool (true))) ∧ ∃ q : Int × List (List Item), y.2.2 = [.row 4 [[(.v (.int .i64 (f))), (.v (.int .i64 (w))), (.v (.int .i64 (s.1))), (.fsl ((s.2).map bucketC) false)]] 0, .row 4 [[(.v (.int .i64 (f))), (.v (.int .i64 (w))), (.v (.int .i64 (q.1))), (.fsl ((q.2).map bucketC) false)]] 0] := by
  have h3 := rungNext_state hd h (by omega)
  have h0 : total s.2 = 0 := by
    have : ∀ (l : List (List Item)), (∀ b ∈ l, b = []) → total l = 0 := by
      intro l
      induction l with
      | nil => intro _; rfl
      | cons b l ih => intro hb; rw [total, ih fun x hx => hb x (by simp [hx]), hb b (by simp)]; rfl
    exact this _ (firstNE_empty hn)
  simp only [hn, outItems, outStart, Option.isSome_none, Option.isNone_none, List.map_nil] at h3
  simp only [c_law07_RungOrder_L1, h3, h0, hi, buckets_lo, bucket_lo, items_lo, Go.Ev.runFunc, Go.Ev.runRound, Go.Ev.setParams, Go.Ev.rangeIn, Go.Ev.exec, Go.Ev.evOpers, Go.Ev.evOper, Go.Ev.item_op, Go.Ev.item_P, Go.Ev.item_A, Go.Ev.item_I, Go.Ev.item_v, Go.Ev.impO, Go.Ev.AV.shift, Go.Ev.evOp, Go.Ev.evs, Go.Ev.Opnd.ev, Go.Ev.Env.get, Go.Ev.Env.set, Go.Ev.Env.unset, Go.Ev.look, Go.Ev.argVars, Go.Ev.optInt, Go.Ev.cellsAt, Go.Ev.content, Go.Ev.loadC, Go.Ev.fillP, Go.Ev.fillR, Go.Ev.AV.cells, Go.Ev.AV.uc, Go.Ev.plains, Go.Ev.AV.plain, Go.Ev.bin_add, Go.Ev.bin_sub, Go.Ev.bin_mul, Go.Ev.bin_quo, Go.Ev.bin_rem, Go.Ev.bin_eql, Go.Ev.bin_neq, Go.Ev.bin_lss, Go.Ev.bin_leq, Go.Ev.bin_gtr, Go.Ev.bin_geq, Go.Ev.eqCells, Go.Ev.resVals, Go.Ev.resVal, Go.Ev.resOf, Go.Ev.kill, Go.Ev.leave, Go.Ev.settle, Go.Ev.keep, Go.Ev.varsLo, Go.Ev.marksLo, Go.Ev.storeLo, Go.Ev.SObj.lo, Go.Ev.lo_v, Go.Ev.lo_agg, Go.Ev.lo_tup, Go.Ev.lo_fsl, Go.Ev.lo_fptr, Go.Ev.lo_sl, Go.Ev.lo_ptr, Go.Ev.lo_fn, Go.Ev.lo_yld, Go.Ev.los_nil, Go.Ev.los_cons, Go.Ev.loss_nil, Go.Ev.loss_cons, Go.Ev.okRows_nil, Go.Ev.okRows_cons, Go.Ev.frz_lo, Go.Ev.frz_agg, Go.Ev.frz_tup, Go.Ev.frz_own, Go.Ev.omap_los, Go.Ev.omap_nil, Go.Ev.omap_cons, Go.Ev.loss_replicate, Go.Ev.shiftss_lo, Go.Ev.take_map_len, List.length_set, List.replicate_one, List.replicate_zero, List.length_replicate, List.take_replicate, Nat.min_self, List.take_length, List.length_map, List.map_replicate, ↓Go.Ev.obind, ↓Go.Ev.itL_itB, Go.Ev.it1, ↓reduceIte, List.length_cons, List.length_nil, List.length_append, List.getElem?_cons_zero, List.getElem?_cons_succ, List.getElem?_nil, List.take_succ_cons, List.take_zero, List.take_nil, List.drop_succ_cons, List.drop_zero, List.drop_nil, List.cons_append, List.nil_append, List.append_nil, List.set_cons_zero, List.set_cons_succ, List.set_nil, List.head?_cons, Nat.reduceAdd, Nat.reduceEqDiff, Nat.reduceSub, Nat.reduceMul, Nat.reduceLT, Nat.reduceLeDiff, Nat.reducePow, Int.reduceLE, Int.reduceLT, Int.reduceAdd, Int.reduceSub, Int.reduceMul, Int.reducePow, Int.reduceToNat, Int.reduceEq, Int.reduceNe, Int.cast_ofNat_Int, Int.reduceNeg, reduceCtorEq, decide_true, decide_false, Bool.and_self, Bool.and_true, Bool.true_and, Bool.not_true, Bool.not_false, Bool.false_eq_true, Bool.true_eq_false, and_self, and_true, true_and, ne_eq, not_false_eq_true, not_true_eq_false, List.cons_ne_nil, Nat.zero_add, Nat.add_zero, Nat.lt_add_one, Nat.le_refl, Option.isSome_some, Option.isSome_none, eq_self, beq_self_eq_true, bne_self_eq_false, forall_const, implies_true, Bool.false_and, Bool.and_false, false_and, and_false, false_or, or_false, true_or, or_true]
  exact ⟨_, rfl, rfl, rfl, rfl, _, rfl⟩
theorem order_outer (s : Int × List (List Item)) (h : Inv f w 100 s) :
    ∃ y, itB (exec (evL T) itL none c_law07_RungOrder_L1) (Ev.settle [7, 8, 9, 10, 11] true 1) ⟨[(7, (.v (.bool (true)))), (8, .ptr 0 0 0 0), (9, (.v (.int .i64 (total s.2)))), (10, (.v (.int .i64 (-1)))), (11, (.v (.int .i64 (0))))], []⟩ [.row 4 [[(.v (.int .i64 (f))), (.v (.int .i64 (w))), (.v (.int .i64 (s.1))), (.fsl ((s.2).map bucketC) false)]] 0] = some y ∧ y.1 = .ret ∧ y.2.1.marks = [] ∧ Ev.look y.2.1.vars 6 = some (.v (.bool (true))) ∧ ∃ r q : Int × List (List Item), y.2.2 = [.row 4 [[(.v (.int .i64 (f))), (.v (.int .i64 (w))), (.v (.int .i64 (r.1))), (.fsl ((r.2).map bucketC) false)]] 0, .row 4 [[(.v (.int .i64 (f))), (.v (.int .i64 (w))), (.v (.int .i64 (q.1))), (.fsl ((q.2).map bucketC) false)]] 0] := by
  have hf := hd.f
  have hw := hd.w
  have := itB_for (f := exec (evL T) itL none c_law07_RungOrder_L1) (s := Ev.settle [7, 8, 9, 10, 11] true 1) (α := (Int × List (List Item)) × Int) (fun i a => ⟨[(7, (.v (.bool (true)))), (8, .ptr 0 0 0 0), (9, (.v (.int .i64 (total a.1.2)))), (10, (.v (.int .i64 (a.2)))), (11, (.v (.int .i64 ((i : Int)))))], []⟩) (fun _ a => [.row 4 [[(.v (.int .i64 (f))), (.v (.int .i64 (w))), (.v (.int .i64 (a.1.1))), (.fsl ((a.1.2).map bucketC) false)]] 0])
    (fun i a => Inv f w 100 a.1 ∧ (i : Int) ≤ a.1.1 ∧ -1 ≤ a.2 ∧ a.2 < f + a.1.1 * w) 8 (fun y => y.1 = .ret ∧ y.2.1.marks = [] ∧ Ev.look y.2.1.vars 6 = some (.v (.bool (true))) ∧ ∃ r q : Int × List (List Item), y.2.2 = [.row 4 [[(.v (.int .i64 (f))), (.v (.int .i64 (w))), (.v (.int .i64 (r.1))), (.fsl ((r.2).map bucketC) false)]] 0, .row 4 [[(.v (.int .i64 (f))), (.v (.int .i64 (w))), (.v (.int .i64 (q.1))), (.fsl ((q.2).map bucketC) false)]] 0]) ?_ ?_ 0 (s, -1) (Nat.zero_le _)
      ⟨h, h.cur.1, by simp, by have := Int.mul_nonneg h.cur.1 (show 0 ≤ w by omega); simp only; omega⟩
  · exact this
  · rintro i ⟨s, last⟩ hi ⟨hi1, hi2, hi3, hi4⟩
    simp only at hi1 hi2 hi3 hi4 ⊢
    cases hk : firstNE s.2 with
    | none =>
      right
      obtain ⟨y, k1, k2, k3, k4, q, k5⟩ := order_none f w hd s last (i : Int) hi1 (by omega) hk
      exact ⟨y, k1, k2, k3, k4, s, q, k5⟩
    | some k =>
      left
      obtain ⟨_, b, hb, hne⟩ := firstNE_some hk
      have hk8 : k < 8 := by rw [← hi1.len]; exact (List.getElem?_eq_some_iff.1 hb).1
      have hlen : 0 < b.length := List.length_pos_iff.2 hne
      obtain ⟨z0, hz0⟩ := List.exists_mem_of_ne_nil b hne
      have hck := (hi1.all k b z0 hb hz0).1
      have hlb := (hi1.small (by omega)).2.2 b (List.mem_of_getElem? hb)
      have hm0 : 0 ≤ (k : Int) * w := Int.mul_nonneg (by omega) (by omega)
      have hm : s.1 * w ≤ k * w := Int.mul_le_mul_of_nonneg_right hck (by omega)
      have hm2 : (k : Int) * w ≤ 8 * w := Int.mul_le_mul_of_nonneg_right (by omega) (by omega)
      have hkw : ((k : Int) + 1) * w = k * w + w := by rw [Int.add_mul]; omega
      have h3 := rungNext_state hd hi1 (by omega)
      have e0 : nextS' s = ((k : Int) + 1, s.2.set k []) := by simp only [nextS', hk]
      have e3 : outItems s = b := by simp only [outItems, hk, hb, Option.getD_some]
      have e4 : outStart f w s = f + k * w := by simp only [outStart, hk]
      have t1 := total_next hi1
      have hnx := hi1.next
      rw [e0, e3] at t1
      rw [e0] at hnx
      rw [e0, e3, e4, hk] at h3
      simp only [Option.isSome_some, Option.isNone_some] at h3
      have t2 := hi1.tot
      have hl0 : ¬ (b.length : Int) = 0 := by omega
      have g1 : IntKind.i64.wrap (last - w) = last - w := w64_small (by omega) (by omega)
      have g2 : ¬ f + (k : Int) * w ≤ last - w := by omega
      have g3 : (i : Int) < 9 := by omega
      have g4 : IntKind.i64.wrap ((i : Int) + 1) = (i : Int) + 1 := w64_small (by omega) (by omega)
      have g5 : IntKind.i64.wrap ((total s.2 : Int) - (b.length : Int)) = (total (s.2.set k []) : Int) := by rw [w64_small (by omega) (by omega)]; simp only at t1; omega
      obtain ⟨⟨y, e, σ⟩, k1, k2, k3, k4, k5, k6, k7, k8, k9, k10, hi, k11, k12, k13⟩ := order_inner f w (total s.2) last (f + k * w) i s ((k : Int) + 1, s.2.set k []) b hlb.1 (by omega) (by omega)
        (.inr fun z hz => by have := (hi1.all k b z hb hz).2.1; omega) (fun z hz => by have := (hi1.all k b z hb hz).2; omega) (by omega)
      simp only at k2 k3 k4 k5 k6 k7 k8 k9 k10 k11
      subst k2; subst k3
      refine ⟨(((k : Int) + 1, s.2.set k []), hi), ?_, hnx, by simp only; omega, by simp only; omega, by simp only; omega⟩
      simp only [c_law07_RungOrder_L1, h3, hl0, g1, g2, g3, g4, g5, k1, k4, k5, k6, k7, k8, k9, k10, k11, buckets_lo, bucket_lo, items_lo, Go.Ev.runFunc, Go.Ev.runRound, Go.Ev.setParams, Go.Ev.rangeIn, Go.Ev.exec, Go.Ev.evOpers, Go.Ev.evOper, Go.Ev.item_op, Go.Ev.item_P, Go.Ev.item_A, Go.Ev.item_I, Go.Ev.item_v, Go.Ev.impO, Go.Ev.AV.shift, Go.Ev.evOp, Go.Ev.evs, Go.Ev.Opnd.ev, Go.Ev.Env.get, Go.Ev.Env.set, Go.Ev.Env.unset, Go.Ev.look, Go.Ev.argVars, Go.Ev.optInt, Go.Ev.cellsAt, Go.Ev.content, Go.Ev.loadC, Go.Ev.fillP, Go.Ev.fillR, Go.Ev.AV.cells, Go.Ev.AV.uc, Go.Ev.plains, Go.Ev.AV.plain, Go.Ev.bin_add, Go.Ev.bin_sub, Go.Ev.bin_mul, Go.Ev.bin_quo, Go.Ev.bin_rem, Go.Ev.bin_eql, Go.Ev.bin_neq, Go.Ev.bin_lss, Go.Ev.bin_leq, Go.Ev.bin_gtr, Go.Ev.bin_geq, Go.Ev.eqCells, Go.Ev.resVals, Go.Ev.resVal, Go.Ev.resOf, Go.Ev.kill, Go.Ev.leave, Go.Ev.settle, Go.Ev.keep, Go.Ev.varsLo, Go.Ev.marksLo, Go.Ev.storeLo, Go.Ev.SObj.lo, Go.Ev.lo_v, Go.Ev.lo_agg, Go.Ev.lo_tup, Go.Ev.lo_fsl, Go.Ev.lo_fptr, Go.Ev.lo_sl, Go.Ev.lo_ptr, Go.Ev.lo_fn, Go.Ev.lo_yld, Go.Ev.los_nil, Go.Ev.los_cons, Go.Ev.loss_nil, Go.Ev.loss_cons, Go.Ev.okRows_nil, Go.Ev.okRows_cons, Go.Ev.frz_lo, Go.Ev.frz_agg, Go.Ev.frz_tup, Go.Ev.frz_own, Go.Ev.omap_los, Go.Ev.omap_nil, Go.Ev.omap_cons, Go.Ev.loss_replicate, Go.Ev.shiftss_lo, Go.Ev.take_map_len, List.length_set, List.replicate_one, List.replicate_zero, List.length_replicate, List.take_replicate, Nat.min_self, List.take_length, List.length_map, List.map_replicate, ↓Go.Ev.obind, ↓Go.Ev.itL_itB, Go.Ev.it1, ↓reduceIte, List.length_cons, List.length_nil, List.length_append, List.getElem?_cons_zero, List.getElem?_cons_succ, List.getElem?_nil, List.take_succ_cons, List.take_zero, List.take_nil, List.drop_succ_cons, List.drop_zero, List.drop_nil, List.cons_append, List.nil_append, List.append_nil, List.set_cons_zero, List.set_cons_succ, List.set_nil, List.head?_cons, Nat.reduceAdd, Nat.reduceEqDiff, Nat.reduceSub, Nat.reduceMul, Nat.reduceLT, Nat.reduceLeDiff, Nat.reducePow, Int.reduceLE, Int.reduceLT, Int.reduceAdd, Int.reduceSub, Int.reduceMul, Int.reducePow, Int.reduceToNat, Int.reduceEq, Int.reduceNe, Int.cast_ofNat_Int, Int.reduceNeg, reduceCtorEq, decide_true, decide_false, Bool.and_self, Bool.and_true, Bool.true_and, Bool.not_true, Bool.not_false, Bool.false_eq_true, Bool.true_eq_false, and_self, and_true, true_and, ne_eq, not_false_eq_true, not_true_eq_false, List.cons_ne_nil, Nat.zero_add, Nat.add_zero, Nat.lt_add_one, Nat.le_refl, Option.isSome_some, Option.isSome_none, eq_self, beq_self_eq_true, bne_self_eq_false, forall_const, implies_true, Bool.false_and, Bool.and_false, false_and, and_false, false_or, or_false, true_or, or_true]
      rfl
  · rintro ⟨s, last⟩ ⟨hi1, hi2, hi3, hi4⟩
    simp only at hi1 hi2 hi3 hi4 ⊢
    cases hk : firstNE s.2 with
    | none =>
      obtain ⟨y, k1, k2, k3, k4, q, k5⟩ := order_none f w hd s last ((8 : Nat) : Int) hi1 (by omega) hk
      exact ⟨y, k1, k2, k3, k4, s, q, k5⟩
    | some k =>
      obtain ⟨_, b, hb, hne⟩ := firstNE_some hk
      have hk8 : k < 8 := by rw [← hi1.len]; exact (List.getElem?_eq_some_iff.1 hb).1
      obtain ⟨z0, hz0⟩ := List.exists_mem_of_ne_nil b hne
      have hck := (hi1.all k b z0 hb hz0).1
      omega
end
theorem law_RungOrder (x y : Int) (hx : 0 ≤ x) (hy : 0 ≤ y) (l : List Op) (c : Bool) (hok : ∀ o ∈ l, o.ok) :
    callZ (evL T) n_law07_RungOrder [(.v (.int .u64 (x))), (.v (.int .u64 (y))), (.fsl ((l).map Op.c) c)] = some (.v (.bool (true))) := by
  have hd := made_dim x y
  have hi := inv_made hd.w.1 l (f := madeF x)
  generalize hs : madeS (madeF x) (madeW y) l = s at hi
  have hmade := law07_Made_ev x y l c hx hy hok
  rw [hs] at hmade
  generalize madeF x = f at *
  generalize madeW y = w at *
  have h8 := rungLen_state hi (by omega)
  obtain ⟨⟨z, e, σ⟩, k1, k2, k3, k4, r, q, k5⟩ := order_outer f w hd s hi
  simp only at k2 k3 k4 k5
  subst k2; subst k5
  rw [callZ, evL_code ext_law07_RungOrder code_law07_RungOrder]
  simp only [c_law07_RungOrder, law07_head_ev, hmade, h8, k1, k3, k4, buckets_lo, bucket_lo, items_lo, ops_lo, Op.c, Go.Ev.runFunc, Go.Ev.runRound, Go.Ev.setParams, Go.Ev.rangeIn, Go.Ev.exec, Go.Ev.evOpers, Go.Ev.evOper, Go.Ev.item_op, Go.Ev.item_P, Go.Ev.item_A, Go.Ev.item_I, Go.Ev.item_v, Go.Ev.impO, Go.Ev.AV.shift, Go.Ev.evOp, Go.Ev.evs, Go.Ev.Opnd.ev, Go.Ev.Env.get, Go.Ev.Env.set, Go.Ev.Env.unset, Go.Ev.look, Go.Ev.argVars, Go.Ev.optInt, Go.Ev.cellsAt, Go.Ev.content, Go.Ev.loadC, Go.Ev.fillP, Go.Ev.fillR, Go.Ev.AV.cells, Go.Ev.AV.uc, Go.Ev.plains, Go.Ev.AV.plain, Go.Ev.bin_add, Go.Ev.bin_sub, Go.Ev.bin_mul, Go.Ev.bin_quo, Go.Ev.bin_rem, Go.Ev.bin_eql, Go.Ev.bin_neq, Go.Ev.bin_lss, Go.Ev.bin_leq, Go.Ev.bin_gtr, Go.Ev.bin_geq, Go.Ev.eqCells, Go.Ev.resVals, Go.Ev.resVal, Go.Ev.resOf, Go.Ev.kill, Go.Ev.leave, Go.Ev.settle, Go.Ev.keep, Go.Ev.varsLo, Go.Ev.marksLo, Go.Ev.storeLo, Go.Ev.SObj.lo, Go.Ev.lo_v, Go.Ev.lo_agg, Go.Ev.lo_tup, Go.Ev.lo_fsl, Go.Ev.lo_fptr, Go.Ev.lo_sl, Go.Ev.lo_ptr, Go.Ev.lo_fn, Go.Ev.lo_yld, Go.Ev.los_nil, Go.Ev.los_cons, Go.Ev.loss_nil, Go.Ev.loss_cons, Go.Ev.okRows_nil, Go.Ev.okRows_cons, Go.Ev.frz_lo, Go.Ev.frz_agg, Go.Ev.frz_tup, Go.Ev.frz_own, Go.Ev.omap_los, Go.Ev.omap_nil, Go.Ev.omap_cons, Go.Ev.loss_replicate, Go.Ev.shiftss_lo, Go.Ev.take_map_len, List.length_set, List.replicate_one, List.replicate_zero, List.length_replicate, List.take_replicate, Nat.min_self, List.take_length, List.length_map, List.map_replicate, ↓Go.Ev.obind, ↓Go.Ev.itL_itB, Go.Ev.it1, ↓reduceIte, List.length_cons, List.length_nil, List.length_append, List.getElem?_cons_zero, List.getElem?_cons_succ, List.getElem?_nil, List.take_succ_cons, List.take_zero, List.take_nil, List.drop_succ_cons, List.drop_zero, List.drop_nil, List.cons_append, List.nil_append, List.append_nil, List.set_cons_zero, List.set_cons_succ, List.set_nil, List.head?_cons, Nat.reduceAdd, Nat.reduceEqDiff, Nat.reduceSub, Nat.reduceMul, Nat.reduceLT, Nat.reduceLeDiff, Nat.reducePow, Int.reduceLE, Int.reduceLT, Int.reduceAdd, Int.reduceSub, Int.reduceMul, Int.reducePow, Int.reduceToNat, Int.reduceEq, Int.reduceNe, Int.cast_ofNat_Int, Int.reduceNeg, reduceCtorEq, decide_true, decide_false, Bool.and_self, Bool.and_true, Bool.true_and, Bool.not_true, Bool.not_false, Bool.false_eq_true, Bool.true_eq_false, and_self, and_true, true_and, ne_eq, not_false_eq_true, not_true_eq_false, List.cons_ne_nil, Nat.zero_add, Nat.add_zero, Nat.lt_add_one, Nat.le_refl, Option.isSome_some, Option.isSome_none, eq_self, beq_self_eq_true, bne_self_eq_false, forall_const, implies_true, Bool.false_and, Bool.and_false, false_and, and_false, false_or, or_false, true_or, or_true]
end Go.Proofs.Ytnmpkmakkniidaa.K
