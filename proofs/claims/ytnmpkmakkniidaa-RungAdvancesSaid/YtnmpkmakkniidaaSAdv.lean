/- Part of the proofs about this seat's program (module SAdv). -/
import Derived.Test.YtnmpkmakkniidaaSInv
set_option linter.unusedSectionVars false
set_option linter.unusedSimpArgs false
set_option linter.unusedVariables false
namespace Go.Proofs.Ytnmpkmakkniidaa.K
open Go.Ev
set_option linter.unusedSimpArgs false
set_option linter.unusedVariables false
theorem law_RungAdvances (x y : Int) (hx : 0 ≤ x) (hy : 0 ≤ y) (l : List Op) (c : Bool) (hok : ∀ o ∈ l, o.ok) (a : Int) (ha : 0 ≤ a ∧ a < 18446744073709551616) :
    callZ (evL T) n_law07_RungAdvances [(.v (.int .u64 (x))), (.v (.int .u64 (y))), (.fsl ((l).map Op.c) c), (.v (.int .u64 (a)))] = some (.v (.bool (true))) := by
  have hd := made_dim x y
  have hi := inv_made hd.w.1 l (f := madeF x)
  generalize hs : madeS (madeF x) (madeW y) l = s at hi
  have hmade := law07_Made_ev x y l c hx hy hok
  rw [hs] at hmade
  generalize madeF x = f at *
  generalize madeW y = w at *
  have hin := hi.next
  have h3 := rungNext_state hd hi (by omega)
  rw [callZ, evL_code ext_law07_RungAdvances code_law07_RungAdvances]
  cases hk : firstNE s.2 with
  | none =>
    have e0 : nextS' s = (8, s.2) := by simp only [nextS', hk]
    rw [e0] at hin h3
    have hitem := law07_item_ev hd 8 s.2 ⟨false, a, 0⟩ ha
    generalize itemOf f w ⟨false, a, 0⟩ = z at hitem
    have hp := rungPut_state hd hin (by omega) z
    have hno : ¬ isIn f w z (8, s.2) := fun hh => hh (by simp only; omega)
    have e1 := rung_Current_ev f w 8 s.2
    have e2 := rung_End_ev f w 8 s.2
    simp only [hk, Option.isSome_none, Option.isNone_none] at h3
    simp only [hno, decide_false] at hp
    simp only [c_law07_RungAdvances, law07_head_ev, hmade, hitem, h3, hp, e1, e2, buckets_lo, bucket_lo, items_lo, ops_lo, Op.c, Go.Ev.runFunc, Go.Ev.runRound, Go.Ev.setParams, Go.Ev.rangeIn, Go.Ev.exec, Go.Ev.evOpers, Go.Ev.evOper, Go.Ev.item_op, Go.Ev.item_P, Go.Ev.item_A, Go.Ev.item_I, Go.Ev.item_v, Go.Ev.impO, Go.Ev.AV.shift, Go.Ev.evOp, Go.Ev.evs, Go.Ev.Opnd.ev, Go.Ev.Env.get, Go.Ev.Env.set, Go.Ev.Env.unset, Go.Ev.look, Go.Ev.argVars, Go.Ev.optInt, Go.Ev.cellsAt, Go.Ev.content, Go.Ev.loadC, Go.Ev.fillP, Go.Ev.fillR, Go.Ev.AV.cells, Go.Ev.AV.uc, Go.Ev.plains, Go.Ev.AV.plain, Go.Ev.bin_add, Go.Ev.bin_sub, Go.Ev.bin_mul, Go.Ev.bin_quo, Go.Ev.bin_rem, Go.Ev.bin_eql, Go.Ev.bin_neq, Go.Ev.bin_lss, Go.Ev.bin_leq, Go.Ev.bin_gtr, Go.Ev.bin_geq, Go.Ev.eqCells, Go.Ev.resVals, Go.Ev.resVal, Go.Ev.resOf, Go.Ev.kill, Go.Ev.leave, Go.Ev.settle, Go.Ev.keep, Go.Ev.varsLo, Go.Ev.marksLo, Go.Ev.storeLo, Go.Ev.SObj.lo, Go.Ev.lo_v, Go.Ev.lo_agg, Go.Ev.lo_tup, Go.Ev.lo_fsl, Go.Ev.lo_fptr, Go.Ev.lo_sl, Go.Ev.lo_ptr, Go.Ev.lo_fn, Go.Ev.lo_yld, Go.Ev.los_nil, Go.Ev.los_cons, Go.Ev.loss_nil, Go.Ev.loss_cons, Go.Ev.okRows_nil, Go.Ev.okRows_cons, Go.Ev.frz_lo, Go.Ev.frz_agg, Go.Ev.frz_tup, Go.Ev.frz_own, Go.Ev.omap_los, Go.Ev.omap_nil, Go.Ev.omap_cons, Go.Ev.loss_replicate, Go.Ev.shiftss_lo, Go.Ev.take_map_len, List.length_set, List.replicate_one, List.replicate_zero, List.length_replicate, List.take_replicate, Nat.min_self, List.take_length, List.length_map, List.map_replicate, ↓Go.Ev.obind, ↓Go.Ev.itL_itB, Go.Ev.it1, ↓reduceIte, List.length_cons, List.length_nil, List.length_append, List.getElem?_cons_zero, List.getElem?_cons_succ, List.getElem?_nil, List.take_succ_cons, List.take_zero, List.take_nil, List.drop_succ_cons, List.drop_zero, List.drop_nil, List.cons_append, List.nil_append, List.append_nil, List.set_cons_zero, List.set_cons_succ, List.set_nil, List.head?_cons, Nat.reduceAdd, Nat.reduceEqDiff, Nat.reduceSub, Nat.reduceMul, Nat.reduceLT, Nat.reduceLeDiff, Nat.reducePow, Int.reduceLE, Int.reduceLT, Int.reduceAdd, Int.reduceSub, Int.reduceMul, Int.reducePow, Int.reduceToNat, Int.reduceEq, Int.reduceNe, Int.cast_ofNat_Int, Int.reduceNeg, reduceCtorEq, decide_true, decide_false, Bool.and_self, Bool.and_true, Bool.true_and, Bool.not_true, Bool.not_false, Bool.false_eq_true, Bool.true_eq_false, and_self, and_true, true_and, ne_eq, not_false_eq_true, not_true_eq_false, List.cons_ne_nil, Nat.zero_add, Nat.add_zero, Nat.lt_add_one, Nat.le_refl, Option.isSome_some, Option.isSome_none, eq_self, beq_self_eq_true, bne_self_eq_false, forall_const, implies_true, Bool.false_and, Bool.and_false, false_and, and_false, false_or, or_false, true_or, or_true]
  | some k =>
    obtain ⟨_, b, hb, hne⟩ := firstNE_some hk
    have hk8 : k < 8 := by rw [← hi.len]; exact (List.getElem?_eq_some_iff.1 hb).1
    have e0 : nextS' s = ((k : Int) + 1, s.2.set k []) := by simp only [nextS', hk]
    have e3 : outItems s = b := by simp only [outItems, hk, hb, Option.getD_some]
    have e4 : outStart f w s = f + k * w := by simp only [outStart, hk]
    rw [e0] at hin
    rw [e0, e3, e4, hk] at h3
    simp only [Option.isSome_some, Option.isNone_some] at h3
    have hlen : 0 < b.length := List.length_pos_iff.2 hne
    have hlb := (hi.small (by omega)).2.2 b (List.mem_of_getElem? hb)
    have hl0 : ¬ (b.length : Int) = 0 := by omega
    have g1 : IntKind.u64.wrap (b.length : Int) = b.length := u64_small (by omega) (by omega)
    have g2 : a.tmod (b.length : Int) = a % b.length := Int.tmod_eq_emod_of_nonneg ha.1
    have g3 : 0 ≤ a % (b.length : Int) := Int.emod_nonneg _ hl0
    have g4 : a % (b.length : Int) < b.length := Int.emod_lt_of_pos _ (by omega)
    have g5 : IntKind.i64.wrap (a % (b.length : Int)) = a % b.length := w64_small (by omega) (by omega)
    have g6 : (a % (b.length : Int)).toNat < b.length := by omega
    have g7 : b[(a % (b.length : Int)).toNat]? = some b[(a % (b.length : Int)).toNat] := List.getElem?_eq_getElem g6
    have hz := (hi.all k b _ hb (List.getElem_mem g6)).2
    generalize b[(a % (b.length : Int)).toNat] = z at g7 hz
    have hp := rungPut_state hd hin (by omega) z
    have hno : ¬ isIn f w z ((k : Int) + 1, s.2.set k []) := fun hh => hh (.inl hz.2)
    simp only [hno, decide_false] at hp
    have e1 := rung_Current_ev f w ((k : Int) + 1) (s.2.set k [])
    have e2 := rung_End_ev f w ((k : Int) + 1) (s.2.set k [])
    have e5 := rung_End_ev f w s.1 s.2
    rw [hd.start (i := (k : Int) + 1) (by omega)] at e1
    have hf := hd.f
    have hw := hd.w
    have hm : 0 ≤ (k : Int) * w := Int.mul_nonneg (by omega) (by omega)
    have hm2 : (k : Int) * w ≤ 8 * w := Int.mul_le_mul_of_nonneg_right (by omega) (by omega)
    have g8 : IntKind.i64.wrap (f + k * w + w) = f + ((k : Int) + 1) * w := by rw [w64_small (by omega) (by omega), Int.add_mul]; omega
    simp only [c_law07_RungAdvances, law07_head_ev, hmade, h3, hp, e1, e2, e5, g1, g2, g3, g5, g7, g8, hl0, buckets_lo, bucket_lo, items_lo, ops_lo, Op.c, List.getElem?_map, Option.map_some, Item.c, Go.Ev.runFunc, Go.Ev.runRound, Go.Ev.setParams, Go.Ev.rangeIn, Go.Ev.exec, Go.Ev.evOpers, Go.Ev.evOper, Go.Ev.item_op, Go.Ev.item_P, Go.Ev.item_A, Go.Ev.item_I, Go.Ev.item_v, Go.Ev.impO, Go.Ev.AV.shift, Go.Ev.evOp, Go.Ev.evs, Go.Ev.Opnd.ev, Go.Ev.Env.get, Go.Ev.Env.set, Go.Ev.Env.unset, Go.Ev.look, Go.Ev.argVars, Go.Ev.optInt, Go.Ev.cellsAt, Go.Ev.content, Go.Ev.loadC, Go.Ev.fillP, Go.Ev.fillR, Go.Ev.AV.cells, Go.Ev.AV.uc, Go.Ev.plains, Go.Ev.AV.plain, Go.Ev.bin_add, Go.Ev.bin_sub, Go.Ev.bin_mul, Go.Ev.bin_quo, Go.Ev.bin_rem, Go.Ev.bin_eql, Go.Ev.bin_neq, Go.Ev.bin_lss, Go.Ev.bin_leq, Go.Ev.bin_gtr, Go.Ev.bin_geq, Go.Ev.eqCells, Go.Ev.resVals, Go.Ev.resVal, Go.Ev.resOf, Go.Ev.kill, Go.Ev.leave, Go.Ev.settle, Go.Ev.keep, Go.Ev.varsLo, Go.Ev.marksLo, Go.Ev.storeLo, Go.Ev.SObj.lo, Go.Ev.lo_v, Go.Ev.lo_agg, Go.Ev.lo_tup, Go.Ev.lo_fsl, Go.Ev.lo_fptr, Go.Ev.lo_sl, Go.Ev.lo_ptr, Go.Ev.lo_fn, Go.Ev.lo_yld, Go.Ev.los_nil, Go.Ev.los_cons, Go.Ev.loss_nil, Go.Ev.loss_cons, Go.Ev.okRows_nil, Go.Ev.okRows_cons, Go.Ev.frz_lo, Go.Ev.frz_agg, Go.Ev.frz_tup, Go.Ev.frz_own, Go.Ev.omap_los, Go.Ev.omap_nil, Go.Ev.omap_cons, Go.Ev.loss_replicate, Go.Ev.shiftss_lo, Go.Ev.take_map_len, List.length_set, List.replicate_one, List.replicate_zero, List.length_replicate, List.take_replicate, Nat.min_self, List.take_length, List.length_map, List.map_replicate, ↓Go.Ev.obind, ↓Go.Ev.itL_itB, Go.Ev.it1, ↓reduceIte, List.length_cons, List.length_nil, List.length_append, List.getElem?_cons_zero, List.getElem?_cons_succ, List.getElem?_nil, List.take_succ_cons, List.take_zero, List.take_nil, List.drop_succ_cons, List.drop_zero, List.drop_nil, List.cons_append, List.nil_append, List.append_nil, List.set_cons_zero, List.set_cons_succ, List.set_nil, List.head?_cons, Nat.reduceAdd, Nat.reduceEqDiff, Nat.reduceSub, Nat.reduceMul, Nat.reduceLT, Nat.reduceLeDiff, Nat.reducePow, Int.reduceLE, Int.reduceLT, Int.reduceAdd, Int.reduceSub, Int.reduceMul, Int.reducePow, Int.reduceToNat, Int.reduceEq, Int.reduceNe, Int.cast_ofNat_Int, Int.reduceNeg, reduceCtorEq, decide_true, decide_false, Bool.and_self, Bool.and_true, Bool.true_and, Bool.not_true, Bool.not_false, Bool.false_eq_true, Bool.true_eq_false, and_self, and_true, true_and, ne_eq, not_false_eq_true, not_true_eq_false, List.cons_ne_nil, Nat.zero_add, Nat.add_zero, Nat.lt_add_one, Nat.le_refl, Option.isSome_some, Option.isSome_none, eq_self, beq_self_eq_true, bne_self_eq_false, forall_const, implies_true, Bool.false_and, Bool.and_false, false_and, and_false, false_or, or_false, true_or, or_true]
end Go.Proofs.Ytnmpkmakkniidaa.K
