/- Part of the proofs about this seat's program (module SLaw1). -/
import Derived.Test.YtnmpkmakkniidaaSRef4
set_option linter.unusedSectionVars false
set_option linter.unusedSimpArgs false
set_option linter.unusedVariables false
namespace Go.Proofs.Ytnmpkmakkniidaa.K
open Go.Ev
set_option linter.unusedSimpArgs false
set_option linter.unusedVariables false
theorem u64_small {n : Int} (h1 : 0 ≤ n) (h2 : n < 18446744073709551616) : IntKind.u64.wrap n = n := by
  have h3 : IntKind.u64.bits = 64 := rfl
  have h4 : IntKind.u64.signed = false := rfl
  simp only [IntKind.wrap, h3, h4, Bool.false_and]
  rw [show (2 : Int) ^ 64 = 18446744073709551616 from rfl]
  simp only [Bool.false_eq_true, if_false]
  omega
def timeZ (x : Int) : Int := x % 1152921504606846977
def spanZ (x : Int) : Int := x % 144115188075855873 + 1
theorem law06_Time_ev (x : Int) (h : 0 ≤ x) : callZ (evL T) n_law06_Time [(.v (.int .u64 (x)))] = some (.v (.int .i64 (timeZ x))) := by
  have h1 : x.tmod 1152921504606846977 = timeZ x := Int.tmod_eq_emod_of_nonneg h
  have h2 : IntKind.i64.wrap (timeZ x) = timeZ x := by unfold timeZ; exact w64_small (by omega) (by omega)
  rw [callZ, evL_code ext_law06_Time code_law06_Time]
  simp only [c_law06_Time, Go.Ev.runFunc, Go.Ev.runRound, Go.Ev.setParams, Go.Ev.rangeIn, Go.Ev.exec, Go.Ev.evOpers, Go.Ev.evOper, Go.Ev.item_op, Go.Ev.item_P, Go.Ev.item_A, Go.Ev.item_I, Go.Ev.item_v, Go.Ev.impO, Go.Ev.AV.shift, Go.Ev.evOp, Go.Ev.evs, Go.Ev.Opnd.ev, Go.Ev.Env.get, Go.Ev.Env.set, Go.Ev.Env.unset, Go.Ev.look, Go.Ev.argVars, Go.Ev.optInt, Go.Ev.cellsAt, Go.Ev.content, Go.Ev.loadC, Go.Ev.fillP, Go.Ev.fillR, Go.Ev.AV.cells, Go.Ev.AV.uc, Go.Ev.plains, Go.Ev.AV.plain, Go.Ev.bin_add, Go.Ev.bin_sub, Go.Ev.bin_mul, Go.Ev.bin_quo, Go.Ev.bin_rem, Go.Ev.bin_eql, Go.Ev.bin_neq, Go.Ev.bin_lss, Go.Ev.bin_leq, Go.Ev.bin_gtr, Go.Ev.bin_geq, Go.Ev.eqCells, Go.Ev.resVals, Go.Ev.resVal, Go.Ev.resOf, Go.Ev.kill, Go.Ev.leave, Go.Ev.settle, Go.Ev.keep, Go.Ev.varsLo, Go.Ev.marksLo, Go.Ev.storeLo, Go.Ev.SObj.lo, Go.Ev.lo_v, Go.Ev.lo_agg, Go.Ev.lo_tup, Go.Ev.lo_fsl, Go.Ev.lo_fptr, Go.Ev.lo_sl, Go.Ev.lo_ptr, Go.Ev.lo_fn, Go.Ev.lo_yld, Go.Ev.los_nil, Go.Ev.los_cons, Go.Ev.loss_nil, Go.Ev.loss_cons, Go.Ev.okRows_nil, Go.Ev.okRows_cons, Go.Ev.frz_lo, Go.Ev.frz_agg, Go.Ev.frz_tup, Go.Ev.frz_own, Go.Ev.omap_los, Go.Ev.omap_nil, Go.Ev.omap_cons, Go.Ev.loss_replicate, Go.Ev.shiftss_lo, Go.Ev.take_map_len, List.length_set, List.replicate_one, List.replicate_zero, List.length_replicate, List.take_replicate, Nat.min_self, List.take_length, List.length_map, List.map_replicate, ↓Go.Ev.obind, ↓Go.Ev.itL_itB, Go.Ev.it1, ↓reduceIte, List.length_cons, List.length_nil, List.length_append, List.getElem?_cons_zero, List.getElem?_cons_succ, List.getElem?_nil, List.take_succ_cons, List.take_zero, List.take_nil, List.drop_succ_cons, List.drop_zero, List.drop_nil, List.cons_append, List.nil_append, List.append_nil, List.set_cons_zero, List.set_cons_succ, List.set_nil, List.head?_cons, Nat.reduceAdd, Nat.reduceEqDiff, Nat.reduceSub, Nat.reduceMul, Nat.reduceLT, Nat.reduceLeDiff, Nat.reducePow, Int.reduceLE, Int.reduceLT, Int.reduceAdd, Int.reduceSub, Int.reduceMul, Int.reducePow, Int.reduceToNat, Int.reduceEq, Int.reduceNe, Int.cast_ofNat_Int, Int.reduceNeg, reduceCtorEq, decide_true, decide_false, Bool.and_self, Bool.and_true, Bool.true_and, Bool.not_true, Bool.not_false, Bool.false_eq_true, Bool.true_eq_false, and_self, and_true, true_and, ne_eq, not_false_eq_true, not_true_eq_false, List.cons_ne_nil, Nat.zero_add, Nat.add_zero, Nat.lt_add_one, Nat.le_refl, Option.isSome_some, Option.isSome_none, eq_self, beq_self_eq_true, bne_self_eq_false, forall_const, implies_true, Bool.false_and, Bool.and_false, false_and, and_false, false_or, or_false, true_or, or_true, h1, h2]
theorem law06_Span_ev (x : Int) (h : 0 ≤ x) : callZ (evL T) n_law06_Span [(.v (.int .u64 (x)))] = some (.v (.int .i64 (spanZ x))) := by
  have h1 : x.tmod 144115188075855873 = x % 144115188075855873 := Int.tmod_eq_emod_of_nonneg h
  have h2 : IntKind.i64.wrap (x % 144115188075855873) = x % 144115188075855873 := w64_small (by omega) (by omega)
  have h3 : IntKind.i64.wrap (x % 144115188075855873 + 1) = spanZ x := by unfold spanZ; exact w64_small (by omega) (by omega)
  rw [callZ, evL_code ext_law06_Span code_law06_Span]
  simp only [c_law06_Span, Go.Ev.runFunc, Go.Ev.runRound, Go.Ev.setParams, Go.Ev.rangeIn, Go.Ev.exec, Go.Ev.evOpers, Go.Ev.evOper, Go.Ev.item_op, Go.Ev.item_P, Go.Ev.item_A, Go.Ev.item_I, Go.Ev.item_v, Go.Ev.impO, Go.Ev.AV.shift, Go.Ev.evOp, Go.Ev.evs, Go.Ev.Opnd.ev, Go.Ev.Env.get, Go.Ev.Env.set, Go.Ev.Env.unset, Go.Ev.look, Go.Ev.argVars, Go.Ev.optInt, Go.Ev.cellsAt, Go.Ev.content, Go.Ev.loadC, Go.Ev.fillP, Go.Ev.fillR, Go.Ev.AV.cells, Go.Ev.AV.uc, Go.Ev.plains, Go.Ev.AV.plain, Go.Ev.bin_add, Go.Ev.bin_sub, Go.Ev.bin_mul, Go.Ev.bin_quo, Go.Ev.bin_rem, Go.Ev.bin_eql, Go.Ev.bin_neq, Go.Ev.bin_lss, Go.Ev.bin_leq, Go.Ev.bin_gtr, Go.Ev.bin_geq, Go.Ev.eqCells, Go.Ev.resVals, Go.Ev.resVal, Go.Ev.resOf, Go.Ev.kill, Go.Ev.leave, Go.Ev.settle, Go.Ev.keep, Go.Ev.varsLo, Go.Ev.marksLo, Go.Ev.storeLo, Go.Ev.SObj.lo, Go.Ev.lo_v, Go.Ev.lo_agg, Go.Ev.lo_tup, Go.Ev.lo_fsl, Go.Ev.lo_fptr, Go.Ev.lo_sl, Go.Ev.lo_ptr, Go.Ev.lo_fn, Go.Ev.lo_yld, Go.Ev.los_nil, Go.Ev.los_cons, Go.Ev.loss_nil, Go.Ev.loss_cons, Go.Ev.okRows_nil, Go.Ev.okRows_cons, Go.Ev.frz_lo, Go.Ev.frz_agg, Go.Ev.frz_tup, Go.Ev.frz_own, Go.Ev.omap_los, Go.Ev.omap_nil, Go.Ev.omap_cons, Go.Ev.loss_replicate, Go.Ev.shiftss_lo, Go.Ev.take_map_len, List.length_set, List.replicate_one, List.replicate_zero, List.length_replicate, List.take_replicate, Nat.min_self, List.take_length, List.length_map, List.map_replicate, ↓Go.Ev.obind, ↓Go.Ev.itL_itB, Go.Ev.it1, ↓reduceIte, List.length_cons, List.length_nil, List.length_append, List.getElem?_cons_zero, List.getElem?_cons_succ, List.getElem?_nil, List.take_succ_cons, List.take_zero, List.take_nil, List.drop_succ_cons, List.drop_zero, List.drop_nil, List.cons_append, List.nil_append, List.append_nil, List.set_cons_zero, List.set_cons_succ, List.set_nil, List.head?_cons, Nat.reduceAdd, Nat.reduceEqDiff, Nat.reduceSub, Nat.reduceMul, Nat.reduceLT, Nat.reduceLeDiff, Nat.reducePow, Int.reduceLE, Int.reduceLT, Int.reduceAdd, Int.reduceSub, Int.reduceMul, Int.reducePow, Int.reduceToNat, Int.reduceEq, Int.reduceNe, Int.cast_ofNat_Int, Int.reduceNeg, reduceCtorEq, decide_true, decide_false, Bool.and_self, Bool.and_true, Bool.true_and, Bool.not_true, Bool.not_false, Bool.false_eq_true, Bool.true_eq_false, and_self, and_true, true_and, ne_eq, not_false_eq_true, not_true_eq_false, List.cons_ne_nil, Nat.zero_add, Nat.add_zero, Nat.lt_add_one, Nat.le_refl, Option.isSome_some, Option.isSome_none, eq_self, beq_self_eq_true, bne_self_eq_false, forall_const, implies_true, Bool.false_and, Bool.and_false, false_and, and_false, false_or, or_false, true_or, or_true, h1, h2, h3]
/-! ### Scripts -/
structure Op where
  next : Bool
  at_ : Int
  seq : Int
def Op.c (o : Op) : List AV := [(.v (.bool (o.next))), (.v (.int .u64 (o.at_))), (.v (.int .i64 (o.seq)))]
def Op.ok (o : Op) : Prop := 0 ≤ o.at_ ∧ o.at_ < 18446744073709551616
theorem Op.lo (n : Nat) (o : Op) : los n o.c = true := rfl
theorem ops_lo (n : Nat) (l : List Op) : loss n (l.map Op.c) = true := loss_map (Op.lo n) l
structure Dim (f w : Int) : Prop where
  f : 0 ≤ f ∧ f ≤ 1152921504606846976
  w : 1 ≤ w ∧ w ≤ 144115188075855873
theorem Dim.start {f w i : Int} (h : Dim f w) (hi : 0 ≤ i ∧ i ≤ 8) : startZ f w i = f + i * w := startZ_small h.f ⟨by have := h.w; omega, h.w.2⟩ hi
def itemOf (f w : Int) (o : Op) : Item := ⟨f + o.at_ % (8 * w + 3) - 1, o.seq, 0⟩
theorem law07_item_ev {f w : Int} (hd : Dim f w) (c : Int) (bs : List (List Item)) (o : Op) (ho : o.ok) :
    callZ (evL T) n_law07_item [(.agg [(.v (.int .i64 (f))), (.v (.int .i64 (w))), (.v (.int .i64 (c))), (.fsl ((bs).map bucketC) false)]), (.agg [(.v (.bool (o.next))), (.v (.int .u64 (o.at_))), (.v (.int .i64 (o.seq)))])] = some (.agg [(.v (.int .i64 ((itemOf f w o).time))), (.v (.int .i64 ((itemOf f w o).seq))), (.v (.int .i64 ((itemOf f w o).slot)))]) := by
  obtain ⟨h0, h1⟩ := ho
  obtain ⟨hf, hw⟩ := hd
  have e1 : startZ f w 8 = f + 8 * w := startZ_small hf ⟨by omega, hw.2⟩ (by omega)
  have e2 : IntKind.i64.wrap (f + 8 * w - f) = 8 * w := by rw [w64_small (by omega) (by omega)]; omega
  have e3 : IntKind.i64.wrap (8 * w + 3) = 8 * w + 3 := w64_small (by omega) (by omega)
  have e4 : IntKind.u64.wrap (8 * w + 3) = 8 * w + 3 := u64_small (by omega) (by omega)
  have e5 : ¬ 8 * w + 3 = 0 := by omega
  have e6 : o.at_.tmod (8 * w + 3) = o.at_ % (8 * w + 3) := Int.tmod_eq_emod_of_nonneg h0
  have e7 : 0 ≤ o.at_ % (8 * w + 3) := Int.emod_nonneg _ e5
  have e8 : o.at_ % (8 * w + 3) < 8 * w + 3 := Int.emod_lt_of_pos _ (by omega)
  have e9 : IntKind.i64.wrap (o.at_ % (8 * w + 3)) = o.at_ % (8 * w + 3) := w64_small (by omega) (by omega)
  have e10 : IntKind.i64.wrap (f + o.at_ % (8 * w + 3)) = f + o.at_ % (8 * w + 3) := w64_small (by omega) (by omega)
  have e11 : IntKind.i64.wrap (f + o.at_ % (8 * w + 3) - 1) = f + o.at_ % (8 * w + 3) - 1 := w64_small (by omega) (by omega)
  rw [callZ, evL_code ext_law07_item code_law07_item]
  simp only [c_law07_item, ref07_End_ev, e1, e2, e3, e4, e5, e6, e9, e10, e11, buckets_lo, itemOf, Go.Ev.runFunc, Go.Ev.runRound, Go.Ev.setParams, Go.Ev.rangeIn, Go.Ev.exec, Go.Ev.evOpers, Go.Ev.evOper, Go.Ev.item_op, Go.Ev.item_P, Go.Ev.item_A, Go.Ev.item_I, Go.Ev.item_v, Go.Ev.impO, Go.Ev.AV.shift, Go.Ev.evOp, Go.Ev.evs, Go.Ev.Opnd.ev, Go.Ev.Env.get, Go.Ev.Env.set, Go.Ev.Env.unset, Go.Ev.look, Go.Ev.argVars, Go.Ev.optInt, Go.Ev.cellsAt, Go.Ev.content, Go.Ev.loadC, Go.Ev.fillP, Go.Ev.fillR, Go.Ev.AV.cells, Go.Ev.AV.uc, Go.Ev.plains, Go.Ev.AV.plain, Go.Ev.bin_add, Go.Ev.bin_sub, Go.Ev.bin_mul, Go.Ev.bin_quo, Go.Ev.bin_rem, Go.Ev.bin_eql, Go.Ev.bin_neq, Go.Ev.bin_lss, Go.Ev.bin_leq, Go.Ev.bin_gtr, Go.Ev.bin_geq, Go.Ev.eqCells, Go.Ev.resVals, Go.Ev.resVal, Go.Ev.resOf, Go.Ev.kill, Go.Ev.leave, Go.Ev.settle, Go.Ev.keep, Go.Ev.varsLo, Go.Ev.marksLo, Go.Ev.storeLo, Go.Ev.SObj.lo, Go.Ev.lo_v, Go.Ev.lo_agg, Go.Ev.lo_tup, Go.Ev.lo_fsl, Go.Ev.lo_fptr, Go.Ev.lo_sl, Go.Ev.lo_ptr, Go.Ev.lo_fn, Go.Ev.lo_yld, Go.Ev.los_nil, Go.Ev.los_cons, Go.Ev.loss_nil, Go.Ev.loss_cons, Go.Ev.okRows_nil, Go.Ev.okRows_cons, Go.Ev.frz_lo, Go.Ev.frz_agg, Go.Ev.frz_tup, Go.Ev.frz_own, Go.Ev.omap_los, Go.Ev.omap_nil, Go.Ev.omap_cons, Go.Ev.loss_replicate, Go.Ev.shiftss_lo, Go.Ev.take_map_len, List.length_set, List.replicate_one, List.replicate_zero, List.length_replicate, List.take_replicate, Nat.min_self, List.take_length, List.length_map, List.map_replicate, ↓Go.Ev.obind, ↓Go.Ev.itL_itB, Go.Ev.it1, ↓reduceIte, List.length_cons, List.length_nil, List.length_append, List.getElem?_cons_zero, List.getElem?_cons_succ, List.getElem?_nil, List.take_succ_cons, List.take_zero, List.take_nil, List.drop_succ_cons, List.drop_zero, List.drop_nil, List.cons_append, List.nil_append, List.append_nil, List.set_cons_zero, List.set_cons_succ, List.set_nil, List.head?_cons, Nat.reduceAdd, Nat.reduceEqDiff, Nat.reduceSub, Nat.reduceMul, Nat.reduceLT, Nat.reduceLeDiff, Nat.reducePow, Int.reduceLE, Int.reduceLT, Int.reduceAdd, Int.reduceSub, Int.reduceMul, Int.reducePow, Int.reduceToNat, Int.reduceEq, Int.reduceNe, Int.cast_ofNat_Int, Int.reduceNeg, reduceCtorEq, decide_true, decide_false, Bool.and_self, Bool.and_true, Bool.true_and, Bool.not_true, Bool.not_false, Bool.false_eq_true, Bool.true_eq_false, and_self, and_true, true_and, ne_eq, not_false_eq_true, not_true_eq_false, List.cons_ne_nil, Nat.zero_add, Nat.add_zero, Nat.lt_add_one, Nat.le_refl, Option.isSome_some, Option.isSome_none, eq_self, beq_self_eq_true, bne_self_eq_false, forall_const, implies_true, Bool.false_and, Bool.and_false, false_and, and_false, false_or, or_false, true_or, or_true]
end Go.Proofs.Ytnmpkmakkniidaa.K
