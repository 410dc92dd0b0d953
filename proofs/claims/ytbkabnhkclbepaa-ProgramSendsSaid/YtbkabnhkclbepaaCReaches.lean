/- Part of the proofs about this seat's program (module CReaches). -/
import Derived.Test.YtbkabnhkclbepaaCSorts3
import Derived.Test.YtbkabnhkclbepaaCBase
set_option linter.unusedSectionVars false
set_option linter.unusedSimpArgs false
set_option linter.unusedVariables false
namespace Go.Proofs.Ytbkabnhkclbepaa.K
open Go.Ev
set_option linter.unusedSimpArgs false
set_option linter.unusedVariables false
set_option maxRecDepth 10000
/-! ### What can be reached -/
def succL (p : List OpI) (i : Nat) (x : OpI) : List Int := (if x.code ≠ 8 ∧ ((i + 1 : Nat) : Int) < p.length then [((i + 1 : Nat) : Int)] else []) ++ (if x.code = 7 then [x.c] else [])
def nextL (p : List OpI) (i : Nat) (x : OpI) : List Int := succL p i x ++ (if x.code = 3 then [x.b] else [])
section
variable (p : List OpI) (c : Bool)
theorem succ_ev (i : Nat) (x : OpI) (hx : p[i]? = some x) (hi : i < 1000) : callZ (evL T) n_program_successors [(.fsl ((p).map OpI.r) c), (.v (.int .i64 (i)))] = some (.fsl ((succL p i x).map intC) false) := by
  have w1 : IntKind.i64.wrap ((i : Int) + 1) = ((i + 1 : Nat) : Int) := by rw [w64_small (by omega) (by omega)]; simp
  obtain ⟨k, a, b, d⟩ := x
  rw [callZ, evL_code ext_program_successors code_program_successors]
  by_cases h8 : k = 8
  · subst h8
    simp only [c_program_successors, Int.natCast_nonneg, Int.toNat_natCast, List.getElem?_map, Option.map_some, hx, OpI.r, succL, Go.Ev.runFunc, Go.Ev.exec, Go.Ev.evOpers, Go.Ev.evOper, Go.Ev.item_op, Go.Ev.evOp, Go.Ev.Opnd.ev, Go.Ev.Env.get, Go.Ev.Env.set, Go.Ev.Env.unset, Go.Ev.look, Go.Ev.argVars, Go.Ev.cellsAt, Go.Ev.loadC, Go.Ev.bin_eql, Go.Ev.bin_neq, Go.Ev.resVals, Go.Ev.resVal, Go.Ev.resOf, Go.Ev.kill, Go.Ev.leave, Go.Ev.storeLo, Go.Ev.lo_sl, Go.Ev.frz_own, Go.Ev.omap_nil, ↓Go.Ev.obind, ↓reduceIte, List.length_cons, List.length_nil, List.getElem?_cons_zero, List.take_zero, List.take_nil, List.drop_zero, List.drop_nil, List.nil_append, List.append_nil, List.head?_cons, Nat.reduceAdd, Nat.reduceEqDiff, Nat.reduceLT, Int.reduceEq, reduceCtorEq, decide_false, Bool.false_eq_true, and_self, and_true, ne_eq, not_true_eq_false, Nat.zero_add, Nat.add_zero, Nat.lt_add_one, Nat.le_refl, eq_self, false_and]
    simp only [List.map_nil]
  by_cases h7 : k = 7
  · subst h7
    by_cases hl : ((i + 1 : Nat) : Int) < (p.length : Int)
    · simp only [c_program_successors, Int.natCast_nonneg, Int.toNat_natCast, List.getElem?_map, Option.map_some, hx, w1, hl, OpI.r, succL, List.map_cons, List.map_nil, intC, Go.Ev.runFunc, Go.Ev.exec, Go.Ev.evOpers, Go.Ev.evOper, Go.Ev.item_op, Go.Ev.evOp, Go.Ev.appE, Go.Ev.Opnd.ev, Go.Ev.Env.get, Go.Ev.Env.set, Go.Ev.look, Go.Ev.argVars, Go.Ev.cellsAt, Go.Ev.content, Go.Ev.loadC, Go.Ev.fillR, Go.Ev.AV.cells, Go.Ev.AV.uc, Go.Ev.plains, Go.Ev.AV.plain, Go.Ev.bin_add, Go.Ev.bin_eql, Go.Ev.bin_neq, Go.Ev.bin_lss, Go.Ev.resVals, Go.Ev.resVal, Go.Ev.resOf, Go.Ev.kill, Go.Ev.leave, Go.Ev.storeLo, Go.Ev.lo_v, Go.Ev.lo_sl, Go.Ev.okRows_nil, Go.Ev.okRows_cons, Go.Ev.frz_lo, Go.Ev.frz_own, Go.Ev.omap_nil, Go.Ev.omap_cons, List.replicate_one, List.length_map, ↓Go.Ev.obind, ↓reduceIte, List.length_cons, List.length_nil, List.getElem?_cons_zero, List.take_succ_cons, List.take_zero, List.take_nil, List.drop_succ_cons, List.drop_zero, List.cons_append, List.nil_append, List.set_cons_zero, List.head?_cons, Nat.reduceAdd, Nat.reduceEqDiff, Nat.reduceMul, Nat.reduceLT, Nat.reduceLeDiff, Nat.reducePow, Int.reduceEq, reduceCtorEq, decide_true, decide_false, Bool.and_self, Bool.false_eq_true, and_self, and_true, ne_eq, not_false_eq_true, List.cons_ne_nil, Nat.zero_add, Nat.lt_add_one, Nat.le_refl, eq_self]
    · simp only [c_program_successors, Int.natCast_nonneg, Int.toNat_natCast, List.getElem?_map, Option.map_some, hx, w1, hl, OpI.r, succL, List.map_cons, List.map_nil, intC, Go.Ev.runFunc, Go.Ev.exec, Go.Ev.evOpers, Go.Ev.evOper, Go.Ev.item_op, Go.Ev.evOp, Go.Ev.appE, Go.Ev.Opnd.ev, Go.Ev.Env.get, Go.Ev.Env.set, Go.Ev.look, Go.Ev.argVars, Go.Ev.cellsAt, Go.Ev.content, Go.Ev.loadC, Go.Ev.fillR, Go.Ev.AV.cells, Go.Ev.AV.uc, Go.Ev.plains, Go.Ev.AV.plain, Go.Ev.bin_add, Go.Ev.bin_eql, Go.Ev.bin_neq, Go.Ev.bin_lss, Go.Ev.resVals, Go.Ev.resVal, Go.Ev.resOf, Go.Ev.kill, Go.Ev.leave, Go.Ev.storeLo, Go.Ev.lo_v, Go.Ev.lo_sl, Go.Ev.okRows_nil, Go.Ev.okRows_cons, Go.Ev.frz_lo, Go.Ev.frz_own, Go.Ev.omap_nil, Go.Ev.omap_cons, List.replicate_one, List.length_map, ↓Go.Ev.obind, ↓reduceIte, List.length_cons, List.length_nil, List.getElem?_cons_zero, List.take_succ_cons, List.take_zero, List.take_nil, List.drop_succ_cons, List.drop_zero, List.nil_append, List.set_cons_zero, List.head?_cons, Nat.reduceAdd, Nat.reduceEqDiff, Nat.reduceMul, Nat.reduceLT, Nat.reduceLeDiff, Nat.reducePow, Int.reduceEq, reduceCtorEq, decide_true, decide_false, Bool.and_self, Bool.false_eq_true, and_self, and_true, ne_eq, not_false_eq_true, List.cons_ne_nil, Nat.zero_add, Nat.lt_add_one, Nat.le_refl, eq_self, and_false]
  · by_cases hl : ((i + 1 : Nat) : Int) < (p.length : Int)
    · simp only [c_program_successors, Int.natCast_nonneg, Int.toNat_natCast, List.getElem?_map, Option.map_some, hx, w1, hl, h8, h7, OpI.r, succL, List.map_cons, List.map_nil, intC, Go.Ev.runFunc, Go.Ev.exec, Go.Ev.evOpers, Go.Ev.evOper, Go.Ev.item_op, Go.Ev.evOp, Go.Ev.appE, Go.Ev.Opnd.ev, Go.Ev.Env.get, Go.Ev.Env.set, Go.Ev.look, Go.Ev.argVars, Go.Ev.cellsAt, Go.Ev.content, Go.Ev.loadC, Go.Ev.fillR, Go.Ev.AV.cells, Go.Ev.AV.uc, Go.Ev.plains, Go.Ev.AV.plain, Go.Ev.bin_add, Go.Ev.bin_eql, Go.Ev.bin_neq, Go.Ev.bin_lss, Go.Ev.resVals, Go.Ev.resVal, Go.Ev.resOf, Go.Ev.kill, Go.Ev.leave, Go.Ev.storeLo, Go.Ev.lo_v, Go.Ev.lo_sl, Go.Ev.okRows_nil, Go.Ev.okRows_cons, Go.Ev.frz_lo, Go.Ev.frz_own, Go.Ev.omap_nil, Go.Ev.omap_cons, List.replicate_one, List.length_map, ↓Go.Ev.obind, ↓reduceIte, List.length_cons, List.length_nil, List.getElem?_cons_zero, List.take_succ_cons, List.take_zero, List.take_nil, List.drop_zero, List.nil_append, List.append_nil, List.set_cons_zero, List.head?_cons, Nat.reduceAdd, Nat.reduceEqDiff, Nat.reduceMul, Nat.reduceLT, Nat.reduceLeDiff, Nat.reducePow, reduceCtorEq, decide_true, decide_false, Bool.and_self, Bool.false_eq_true, and_self, and_true, ne_eq, not_false_eq_true, List.cons_ne_nil, Nat.zero_add, Nat.lt_add_one, Nat.le_refl, eq_self]
    · simp only [c_program_successors, Int.natCast_nonneg, Int.toNat_natCast, List.getElem?_map, Option.map_some, hx, w1, hl, h8, h7, OpI.r, succL, List.map_nil, Go.Ev.runFunc, Go.Ev.exec, Go.Ev.evOpers, Go.Ev.evOper, Go.Ev.item_op, Go.Ev.evOp, Go.Ev.Opnd.ev, Go.Ev.Env.get, Go.Ev.Env.set, Go.Ev.look, Go.Ev.argVars, Go.Ev.cellsAt, Go.Ev.loadC, Go.Ev.bin_add, Go.Ev.bin_eql, Go.Ev.bin_neq, Go.Ev.bin_lss, Go.Ev.resVals, Go.Ev.resVal, Go.Ev.resOf, Go.Ev.kill, Go.Ev.leave, Go.Ev.storeLo, Go.Ev.lo_sl, Go.Ev.frz_own, Go.Ev.omap_nil, List.length_map, ↓Go.Ev.obind, ↓reduceIte, List.length_cons, List.length_nil, List.getElem?_cons_zero, List.take_zero, List.take_nil, List.drop_zero, List.drop_nil, List.nil_append, List.append_nil, List.head?_cons, Nat.reduceAdd, Nat.reduceEqDiff, Nat.reduceLT, reduceCtorEq, decide_true, decide_false, Bool.false_eq_true, and_self, and_true, ne_eq, not_false_eq_true, Nat.zero_add, Nat.add_zero, Nat.lt_add_one, Nat.le_refl, eq_self, and_false]
theorem next_ev (i : Nat) (x : OpI) (hx : p[i]? = some x) (hi : i < 1000) : callZ (evL T) n_ref18_Next [(.fsl ((p).map OpI.r) c), (.v (.int .i64 (i)))] = some (.fsl ((nextL p i x).map intC) false) := by
  have w1 : IntKind.i64.wrap ((i : Int) + 1) = ((i + 1 : Nat) : Int) := by rw [w64_small (by omega) (by omega)]; simp
  obtain ⟨k, a, b, d⟩ := x
  rw [callZ, evL_code ext_ref18_Next code_ref18_Next]
  by_cases h8 : k = 8
  · subst h8
    simp only [c_ref18_Next, Int.natCast_nonneg, Int.toNat_natCast, List.getElem?_map, Option.map_some, hx, OpI.r, nextL, succL, Go.Ev.runFunc, Go.Ev.exec, Go.Ev.evOpers, Go.Ev.evOper, Go.Ev.item_op, Go.Ev.evOp, Go.Ev.Opnd.ev, Go.Ev.Env.get, Go.Ev.Env.set, Go.Ev.Env.unset, Go.Ev.look, Go.Ev.argVars, Go.Ev.cellsAt, Go.Ev.loadC, Go.Ev.bin_eql, Go.Ev.bin_neq, Go.Ev.resVals, Go.Ev.resVal, Go.Ev.resOf, Go.Ev.kill, Go.Ev.leave, Go.Ev.storeLo, Go.Ev.lo_sl, Go.Ev.frz_own, Go.Ev.omap_nil, ↓Go.Ev.obind, ↓reduceIte, List.length_cons, List.length_nil, List.getElem?_cons_zero, List.take_zero, List.take_nil, List.drop_zero, List.drop_nil, List.nil_append, List.append_nil, List.head?_cons, Nat.reduceAdd, Nat.reduceEqDiff, Nat.reduceLT, Int.reduceEq, reduceCtorEq, decide_false, Bool.false_eq_true, and_self, and_true, ne_eq, not_true_eq_false, Nat.zero_add, Nat.add_zero, Nat.lt_add_one, Nat.le_refl, eq_self, false_and]
    simp only [List.map_nil]
  by_cases hl : ((i + 1 : Nat) : Int) < (p.length : Int)
  · by_cases h7 : k = 7
    · subst h7
      simp only [c_ref18_Next, Int.natCast_nonneg, Int.toNat_natCast, List.getElem?_map, Option.map_some, hx, w1, hl, OpI.r, nextL, succL, List.map_cons, List.map_nil, intC, Go.Ev.runFunc, Go.Ev.exec, Go.Ev.evOpers, Go.Ev.evOper, Go.Ev.item_op, Go.Ev.evOp, Go.Ev.appE, Go.Ev.Opnd.ev, Go.Ev.Env.get, Go.Ev.Env.set, Go.Ev.look, Go.Ev.argVars, Go.Ev.cellsAt, Go.Ev.content, Go.Ev.loadC, Go.Ev.fillR, Go.Ev.AV.cells, Go.Ev.AV.uc, Go.Ev.plains, Go.Ev.AV.plain, Go.Ev.bin_add, Go.Ev.bin_eql, Go.Ev.bin_neq, Go.Ev.bin_lss, Go.Ev.resVals, Go.Ev.resVal, Go.Ev.resOf, Go.Ev.kill, Go.Ev.leave, Go.Ev.storeLo, Go.Ev.lo_v, Go.Ev.lo_sl, Go.Ev.okRows_nil, Go.Ev.okRows_cons, Go.Ev.frz_lo, Go.Ev.frz_own, Go.Ev.omap_nil, Go.Ev.omap_cons, List.replicate_one, List.length_map, ↓Go.Ev.obind, ↓reduceIte, List.length_cons, List.length_nil, List.getElem?_cons_zero, List.take_succ_cons, List.take_zero, List.take_nil, List.drop_succ_cons, List.drop_zero, List.cons_append, List.nil_append, List.append_nil, List.set_cons_zero, List.head?_cons, Nat.reduceAdd, Nat.reduceEqDiff, Nat.reduceMul, Nat.reduceLT, Nat.reduceLeDiff, Nat.reducePow, Int.reduceEq, reduceCtorEq, decide_true, decide_false, Bool.and_self, Bool.false_eq_true, and_self, and_true, ne_eq, not_false_eq_true, List.cons_ne_nil, Nat.zero_add, Nat.lt_add_one, Nat.le_refl, eq_self]
    by_cases h3 : k = 3
    · subst h3
      simp only [c_ref18_Next, Int.natCast_nonneg, Int.toNat_natCast, List.getElem?_map, Option.map_some, hx, w1, hl, OpI.r, nextL, succL, List.map_cons, List.map_nil, intC, Go.Ev.runFunc, Go.Ev.exec, Go.Ev.evOpers, Go.Ev.evOper, Go.Ev.item_op, Go.Ev.evOp, Go.Ev.appE, Go.Ev.Opnd.ev, Go.Ev.Env.get, Go.Ev.Env.set, Go.Ev.look, Go.Ev.argVars, Go.Ev.cellsAt, Go.Ev.content, Go.Ev.loadC, Go.Ev.fillR, Go.Ev.AV.cells, Go.Ev.AV.uc, Go.Ev.plains, Go.Ev.AV.plain, Go.Ev.bin_add, Go.Ev.bin_eql, Go.Ev.bin_neq, Go.Ev.bin_lss, Go.Ev.resVals, Go.Ev.resVal, Go.Ev.resOf, Go.Ev.kill, Go.Ev.leave, Go.Ev.storeLo, Go.Ev.lo_v, Go.Ev.lo_sl, Go.Ev.okRows_nil, Go.Ev.okRows_cons, Go.Ev.frz_lo, Go.Ev.frz_own, Go.Ev.omap_nil, Go.Ev.omap_cons, List.replicate_one, List.length_map, ↓Go.Ev.obind, ↓reduceIte, List.length_cons, List.length_nil, List.getElem?_cons_zero, List.take_succ_cons, List.take_zero, List.take_nil, List.drop_succ_cons, List.drop_zero, List.cons_append, List.nil_append, List.append_nil, List.set_cons_zero, List.head?_cons, Nat.reduceAdd, Nat.reduceEqDiff, Nat.reduceMul, Nat.reduceLT, Nat.reduceLeDiff, Nat.reducePow, Int.reduceEq, reduceCtorEq, decide_true, decide_false, Bool.and_self, Bool.false_eq_true, and_self, and_true, ne_eq, not_false_eq_true, List.cons_ne_nil, Nat.zero_add, Nat.lt_add_one, Nat.le_refl, eq_self]
    · simp only [c_ref18_Next, Int.natCast_nonneg, Int.toNat_natCast, List.getElem?_map, Option.map_some, hx, w1, hl, h8, h7, h3, OpI.r, nextL, succL, List.map_cons, List.map_nil, intC, Go.Ev.runFunc, Go.Ev.exec, Go.Ev.evOpers, Go.Ev.evOper, Go.Ev.item_op, Go.Ev.evOp, Go.Ev.appE, Go.Ev.Opnd.ev, Go.Ev.Env.get, Go.Ev.Env.set, Go.Ev.look, Go.Ev.argVars, Go.Ev.cellsAt, Go.Ev.content, Go.Ev.loadC, Go.Ev.fillR, Go.Ev.AV.cells, Go.Ev.AV.uc, Go.Ev.plains, Go.Ev.AV.plain, Go.Ev.bin_add, Go.Ev.bin_eql, Go.Ev.bin_neq, Go.Ev.bin_lss, Go.Ev.resVals, Go.Ev.resVal, Go.Ev.resOf, Go.Ev.kill, Go.Ev.leave, Go.Ev.storeLo, Go.Ev.lo_v, Go.Ev.lo_sl, Go.Ev.okRows_nil, Go.Ev.okRows_cons, Go.Ev.frz_lo, Go.Ev.frz_own, Go.Ev.omap_nil, Go.Ev.omap_cons, List.replicate_one, List.length_map, ↓Go.Ev.obind, ↓reduceIte, List.length_cons, List.length_nil, List.getElem?_cons_zero, List.take_succ_cons, List.take_zero, List.take_nil, List.drop_zero, List.nil_append, List.append_nil, List.set_cons_zero, List.head?_cons, Nat.reduceAdd, Nat.reduceEqDiff, Nat.reduceMul, Nat.reduceLT, Nat.reduceLeDiff, Nat.reducePow, reduceCtorEq, decide_true, decide_false, Bool.and_self, Bool.false_eq_true, and_self, and_true, ne_eq, not_false_eq_true, List.cons_ne_nil, Nat.zero_add, Nat.lt_add_one, Nat.le_refl, eq_self]
  · by_cases h7 : k = 7
    · subst h7
      simp only [c_ref18_Next, Int.natCast_nonneg, Int.toNat_natCast, List.getElem?_map, Option.map_some, hx, w1, hl, OpI.r, nextL, succL, List.map_cons, List.map_nil, intC, Go.Ev.runFunc, Go.Ev.exec, Go.Ev.evOpers, Go.Ev.evOper, Go.Ev.item_op, Go.Ev.evOp, Go.Ev.appE, Go.Ev.Opnd.ev, Go.Ev.Env.get, Go.Ev.Env.set, Go.Ev.look, Go.Ev.argVars, Go.Ev.cellsAt, Go.Ev.content, Go.Ev.loadC, Go.Ev.fillR, Go.Ev.AV.cells, Go.Ev.AV.uc, Go.Ev.plains, Go.Ev.AV.plain, Go.Ev.bin_add, Go.Ev.bin_eql, Go.Ev.bin_neq, Go.Ev.bin_lss, Go.Ev.resVals, Go.Ev.resVal, Go.Ev.resOf, Go.Ev.kill, Go.Ev.leave, Go.Ev.storeLo, Go.Ev.lo_v, Go.Ev.lo_sl, Go.Ev.okRows_nil, Go.Ev.okRows_cons, Go.Ev.frz_lo, Go.Ev.frz_own, Go.Ev.omap_nil, Go.Ev.omap_cons, List.replicate_one, List.length_map, ↓Go.Ev.obind, ↓reduceIte, List.length_cons, List.length_nil, List.getElem?_cons_zero, List.take_succ_cons, List.take_zero, List.take_nil, List.drop_succ_cons, List.drop_zero, List.nil_append, List.append_nil, List.set_cons_zero, List.head?_cons, Nat.reduceAdd, Nat.reduceEqDiff, Nat.reduceMul, Nat.reduceLT, Nat.reduceLeDiff, Nat.reducePow, Int.reduceEq, reduceCtorEq, decide_true, decide_false, Bool.and_self, Bool.false_eq_true, and_self, and_true, ne_eq, not_false_eq_true, List.cons_ne_nil, Nat.zero_add, Nat.lt_add_one, Nat.le_refl, eq_self, and_false]
    by_cases h3 : k = 3
    · subst h3
      simp only [c_ref18_Next, Int.natCast_nonneg, Int.toNat_natCast, List.getElem?_map, Option.map_some, hx, w1, hl, OpI.r, nextL, succL, List.map_cons, List.map_nil, intC, Go.Ev.runFunc, Go.Ev.exec, Go.Ev.evOpers, Go.Ev.evOper, Go.Ev.item_op, Go.Ev.evOp, Go.Ev.appE, Go.Ev.Opnd.ev, Go.Ev.Env.get, Go.Ev.Env.set, Go.Ev.look, Go.Ev.argVars, Go.Ev.cellsAt, Go.Ev.content, Go.Ev.loadC, Go.Ev.fillR, Go.Ev.AV.cells, Go.Ev.AV.uc, Go.Ev.plains, Go.Ev.AV.plain, Go.Ev.bin_add, Go.Ev.bin_eql, Go.Ev.bin_neq, Go.Ev.bin_lss, Go.Ev.resVals, Go.Ev.resVal, Go.Ev.resOf, Go.Ev.kill, Go.Ev.leave, Go.Ev.storeLo, Go.Ev.lo_v, Go.Ev.lo_sl, Go.Ev.okRows_nil, Go.Ev.okRows_cons, Go.Ev.frz_lo, Go.Ev.frz_own, Go.Ev.omap_nil, Go.Ev.omap_cons, List.replicate_one, List.length_map, ↓Go.Ev.obind, ↓reduceIte, List.length_cons, List.length_nil, List.getElem?_cons_zero, List.take_succ_cons, List.take_zero, List.take_nil, List.drop_succ_cons, List.drop_zero, List.nil_append, List.append_nil, List.set_cons_zero, List.head?_cons, Nat.reduceAdd, Nat.reduceEqDiff, Nat.reduceMul, Nat.reduceLT, Nat.reduceLeDiff, Nat.reducePow, Int.reduceEq, reduceCtorEq, decide_true, decide_false, Bool.and_self, Bool.false_eq_true, and_self, and_true, ne_eq, not_false_eq_true, List.cons_ne_nil, Nat.zero_add, Nat.lt_add_one, Nat.le_refl, eq_self, and_false]
    · simp only [c_ref18_Next, Int.natCast_nonneg, Int.toNat_natCast, List.getElem?_map, Option.map_some, hx, w1, hl, h8, h7, h3, OpI.r, nextL, succL, List.map_nil, Go.Ev.runFunc, Go.Ev.exec, Go.Ev.evOpers, Go.Ev.evOper, Go.Ev.item_op, Go.Ev.evOp, Go.Ev.Opnd.ev, Go.Ev.Env.get, Go.Ev.Env.set, Go.Ev.look, Go.Ev.argVars, Go.Ev.cellsAt, Go.Ev.loadC, Go.Ev.bin_add, Go.Ev.bin_eql, Go.Ev.bin_neq, Go.Ev.bin_lss, Go.Ev.resVals, Go.Ev.resVal, Go.Ev.resOf, Go.Ev.kill, Go.Ev.leave, Go.Ev.storeLo, Go.Ev.lo_sl, Go.Ev.frz_own, Go.Ev.omap_nil, List.length_map, ↓Go.Ev.obind, ↓reduceIte, List.length_cons, List.length_nil, List.getElem?_cons_zero, List.take_zero, List.take_nil, List.drop_zero, List.drop_nil, List.nil_append, List.append_nil, List.head?_cons, Nat.reduceAdd, Nat.reduceEqDiff, Nat.reduceLT, reduceCtorEq, decide_true, decide_false, Bool.false_eq_true, and_self, and_true, ne_eq, not_false_eq_true, Nat.zero_add, Nat.add_zero, Nat.lt_add_one, Nat.le_refl, eq_self, and_false]
end
def nextOf (p : List OpI) (y : Int) : List Int := nextL p y.toNat ((p[y.toNat]?).getD ⟨0, 0, 0, 0⟩)
def InR (p : List OpI) (x : Int) : Prop := 0 ≤ x ∧ x < p.length
/-- What a valid program's jumps are. -/
structure PV (p : List OpI) : Prop where
  len : 1 ≤ p.length ∧ p.length ≤ 16
  next : ∀ y, InR p y → ∀ s ∈ nextOf p y, InR p s
  send : ∀ x ∈ p, x.code = 2 → 1 ≤ x.c
theorem pv_of {p : List OpI} {ps lps look : Int} (h : checkZ p ps lps look = 0) : PV p := by
  have hs : shapeB p = true ∧ p.all (fun x => operB x p.length ps) = true := by
    unfold checkZ at h
    cases h1 : shapeB p with
    | false => rw [if_pos h1] at h; cases h
    | true =>
      rw [if_neg (by simp [h1])] at h
      cases h2 : p.all (fun x => operB x p.length ps) with
      | false => rw [if_pos h2] at h; cases h
      | true => exact ⟨rfl, rfl⟩
  obtain ⟨h1, h2⟩ := hs
  simp only [shapeB, Bool.and_eq_true, decide_eq_true_eq, List.all_eq_true] at h1 h2
  refine ⟨h1.1, fun y hy s hs => ?_, fun x hx hc => ?_⟩
  rotate_left
  · have ho := h2 x hx
    unfold operB at ho
    rw [if_neg (by omega), if_pos hc] at ho
    simp only [Bool.and_eq_true, decide_eq_true_eq, delayB] at ho
    exact ho.2.2.1
  obtain ⟨x, hx⟩ : ∃ x, p[y.toNat]? = some x := ⟨_, List.getElem?_eq_getElem (by have := hy.1; have := hy.2; omega)⟩
  have ho := h2 x (List.mem_of_getElem? hx)
  unfold nextOf nextL succL at hs
  rw [hx] at hs
  simp only [Option.getD_some, List.mem_append] at hs
  unfold operB at ho
  rcases hs with (hs | hs) | hs
  · split at hs
    · rename_i hc; rw [List.mem_singleton] at hs; subst hs; exact ⟨by omega, hc.2⟩
    · simp at hs
  · split at hs
    · rename_i hc
      rw [List.mem_singleton] at hs; subst hs
      rw [if_neg (by omega), if_neg (by omega), if_neg (by omega), if_neg (by omega), if_neg (by omega), if_pos hc] at ho
      simp only [Bool.and_eq_true, decide_eq_true_eq] at ho
      exact ⟨ho.2.2.2.1, ho.2.2.2.2⟩
    · simp at hs
  · split at hs
    · rename_i hc
      rw [List.mem_singleton] at hs; subst hs
      rw [if_neg (by omega), if_neg (by omega), if_pos hc] at ho
      simp only [Bool.and_eq_true, decide_eq_true_eq] at ho
      exact ⟨ho.2.1, ho.2.2.1⟩
    · simp at hs
structure RInv (p : List OpI) (out work : List Int) : Prop where
  nodup : out.Nodup
  ro : ∀ x ∈ out, InR p x
  rw : ∀ x ∈ work, InR p x
  fo : ∀ x ∈ out, x = 0 ∨ ∃ y ∈ out, x ∈ nextOf p y
  fw : ∀ x ∈ work, x = 0 ∨ ∃ y ∈ out, x ∈ nextOf p y
  clo : ∀ y ∈ out, ∀ s ∈ nextOf p y, s ∈ out ∨ s ∈ work
  zero : 0 ∈ out ∨ 0 ∈ work
  lenW : work.length ≤ 1 + 3 * out.length
theorem nodup_sub {α : Type} [DecidableEq α] : ∀ {l l' : List α}, l.Nodup → l ⊆ l' → l.length ≤ l'.length
  | [], l', _, _ => Nat.zero_le _
  | a :: l, l', hn, hs => by
    rw [List.nodup_cons] at hn
    have ha : a ∈ l' := hs (List.mem_cons_self ..)
    have h1 := nodup_sub (l' := l'.erase a) hn.2 fun x hx => (List.mem_erase_of_ne (fun e => hn.1 (by rw [← e]; exact hx))).2 (hs (List.mem_cons_of_mem _ hx))
    have h2 := List.length_erase_of_mem ha
    have h3 := List.length_pos_of_mem ha
    rw [List.length_cons]; omega
theorem nodup_len {p : List OpI} {out : List Int} (h : out.Nodup) (hr : ∀ x ∈ out, InR p x) : out.length ≤ p.length := by
  have h1 : (out.map Int.toNat).Nodup := by
    rw [List.Nodup, List.pairwise_map]
    refine List.Pairwise.imp_of_mem (fun {a b} ha hb hab e => hab ?_) h
    have := (hr a ha).1; have := (hr b hb).1; omega
  have h2 : (out.map Int.toNat) ⊆ List.range p.length := by
    intro x hx
    obtain ⟨y, hy, rfl⟩ := List.mem_map.1 hx
    rw [List.mem_range]
    have := hr y hy; unfold InR at this; omega
  have := nodup_sub h1 h2
  simpa using this
theorem nextL_len (p : List OpI) (i : Nat) (x : OpI) : (nextL p i x).length ≤ 3 := by
  unfold nextL succL
  split <;> split <;> split <;> simp
theorem RInv.skip {p : List OpI} {out work : List Int} {x : Int} (h : RInv p out (work ++ [x])) (hx : x ∈ out) : RInv p out work :=
  ⟨h.nodup, h.ro, fun y hy => h.rw y (List.mem_append_left _ hy), h.fo, fun y hy => h.fw y (List.mem_append_left _ hy), fun y hy s hs => by
    rcases h.clo y hy s hs with k | k
    · exact .inl k
    · rcases List.mem_append.1 k with k | k
      · exact .inr k
      · rw [List.mem_singleton] at k; subst k; exact .inl hx, by
    rcases h.zero with k | k
    · exact .inl k
    · rcases List.mem_append.1 k with k | k
      · exact .inr k
      · rw [List.mem_singleton] at k; subst k; exact .inl hx, by have := h.lenW; simp at this; omega⟩
theorem RInv.add {p : List OpI} {out work : List Int} {x : Int} (h : RInv p out (work ++ [x])) (hv : PV p) (hx : x ∉ out) : RInv p (out ++ [x]) (work ++ nextOf p x) := by
  have hxr := h.rw x (by simp)
  have hl : (nextOf p x).length ≤ 3 := nextL_len _ _ _
  refine ⟨?_, ?_, ?_, ?_, ?_, ?_, ?_, ?_⟩
  · rw [List.nodup_append]
    exact ⟨h.nodup, by simp, fun a ha b hb e => by rw [List.mem_singleton] at hb; subst hb; subst e; exact hx ha⟩
  · intro y hy
    rcases List.mem_append.1 hy with hy | hy
    · exact h.ro y hy
    · rw [List.mem_singleton] at hy; subst hy; exact hxr
  · intro y hy
    rcases List.mem_append.1 hy with hy | hy
    · exact h.rw y (List.mem_append_left _ hy)
    · exact hv.next x hxr y hy
  · intro y hy
    rcases List.mem_append.1 hy with hy | hy
    · exact (h.fo y hy).imp id fun ⟨z, hz, k⟩ => ⟨z, List.mem_append_left _ hz, k⟩
    · rw [List.mem_singleton] at hy; subst hy
      exact (h.fw y (by simp)).imp id fun ⟨z, hz, k⟩ => ⟨z, List.mem_append_left _ hz, k⟩
  · intro y hy
    rcases List.mem_append.1 hy with hy | hy
    · exact (h.fw y (List.mem_append_left _ hy)).imp id fun ⟨z, hz, k⟩ => ⟨z, List.mem_append_left _ hz, k⟩
    · exact .inr ⟨x, by simp, hy⟩
  · intro y hy s hs
    rcases List.mem_append.1 hy with hy | hy
    · rcases h.clo y hy s hs with k | k
      · exact .inl (List.mem_append_left _ k)
      · rcases List.mem_append.1 k with k | k
        · exact .inr (List.mem_append_left _ k)
        · exact .inl (List.mem_append_right _ k)
    · rw [List.mem_singleton] at hy; subst hy; exact .inr (List.mem_append_right _ hs)
  · rcases h.zero with k | k
    · exact .inl (List.mem_append_left _ k)
    · rcases List.mem_append.1 k with k | k
      · exact .inr (List.mem_append_left _ k)
      · exact .inl (List.mem_append_right _ k)
  · have := h.lenW
    simp only [List.length_append, List.length_cons, List.length_nil] at this ⊢
    omega
end Go.Proofs.Ytbkabnhkclbepaa.K

namespace Go.Proofs.Ytbkabnhkclbepaa.K
open Go.Ev
set_option linter.unusedSimpArgs false
set_option linter.unusedVariables false
set_option maxRecDepth 10000
structure RS where
  out : List Int
  g : Nat
  wf : List Int
  wl : Nat
  gw : Nat
  cw : Bool
section
variable (p : List OpI) (c : Bool)
theorem reach_find (out : List Int) (g : Nat) (wf : List Int) (wl gw : Nat) (cw : Bool) (x : Int) (hl : out.length ≤ 1000) :
    ∃ y, itB (exec (evL T) itL none c_program_Reachable_L2) (Ev.settle [0, 3, 4, 5, 23, 24, 25] true 2) ⟨[(0, (.fsl ((p).map OpI.r) c)), (3, .sl 0 g 0 out.length false), (4, .sl 1 gw 0 wl cw), (5, (.v (.int .i64 (x)))), (23, .sl 0 g 0 out.length false), (24, (.v (.int .i64 (out.length)))), (25, (.v (.int .i64 (0))))], []⟩ [.row 1 (out.map intC) g, .row 1 (wf.map intC) gw] = some y ∧
      (out.all (fun z => decide (z ≠ x)) = true ∧ (y.1 = .exit 2 ∧ y.2.1.marks = [] ∧ y.2.2 = [.row 1 (out.map intC) g, .row 1 (wf.map intC) gw] ∧ Ev.look y.2.1.vars 0 = some (.fsl ((p).map OpI.r) c) ∧ Ev.look y.2.1.vars 3 = some (.sl 0 g 0 out.length false) ∧ Ev.look y.2.1.vars 4 = some (.sl 1 gw 0 wl cw) ∧ Ev.look y.2.1.vars 5 = some (.v (.int .i64 (x)))) ∨
      out.all (fun z => decide (z ≠ x)) = false ∧ ∃ z, out.find? (fun z => !decide (z ≠ x)) = some z ∧ (y.1 = .exit 1 ∧ y.2.1.marks = [] ∧ y.2.2 = [.row 1 (out.map intC) g, .row 1 (wf.map intC) gw] ∧ Ev.look y.2.1.vars 0 = some (.fsl ((p).map OpI.r) c) ∧ Ev.look y.2.1.vars 3 = some (.sl 0 g 0 out.length false) ∧ Ev.look y.2.1.vars 4 = some (.sl 1 gw 0 wl cw))) := by
  refine itB_find out (fun i => ⟨[(0, (.fsl ((p).map OpI.r) c)), (3, .sl 0 g 0 out.length false), (4, .sl 1 gw 0 wl cw), (5, (.v (.int .i64 (x)))), (23, .sl 0 g 0 out.length false), (24, (.v (.int .i64 (out.length)))), (25, (.v (.int .i64 (i))))], []⟩) [.row 1 (out.map intC) g, .row 1 (wf.map intC) gw] (fun z => decide (z ≠ x)) _ (fun _ y => _) ?_ ?_ ?_
  · intro i z hi hz hp
    have hi' : (i : Int) < (out.length : Int) := by omega
    have hw : IntKind.i64.wrap ((i : Int) + 1) = ((i + 1 : Nat) : Int) := w64_add1 (by omega)
    have hp' : ¬ z = x := of_decide_eq_true hp
    simp only [c_program_Reachable_L2, Int.natCast_nonneg, Int.toNat_natCast, List.getElem?_map, Option.map_some, hz, hi, hi', hw, hp', intC, prog_lo, ints_lo, Go.Ev.exec, Go.Ev.evOpers, Go.Ev.evOper, Go.Ev.item_op, Go.Ev.evOp, Go.Ev.Opnd.ev, Go.Ev.Env.get, Go.Ev.Env.set, Go.Ev.look, Go.Ev.cellsAt, Go.Ev.loadC, Go.Ev.bin_add, Go.Ev.bin_eql, Go.Ev.bin_lss, Go.Ev.settle, Go.Ev.keep, Go.Ev.varsLo, Go.Ev.marksLo, Go.Ev.storeLo, Go.Ev.SObj.lo, Go.Ev.lo_v, Go.Ev.lo_fsl, Go.Ev.lo_sl, ↓Go.Ev.obind, Go.Ev.it1, ↓reduceIte, List.getElem?_cons_zero, List.take_succ_cons, List.take_nil, List.drop_zero, List.head?_cons, Nat.reduceEqDiff, Nat.reduceLT, reduceCtorEq, decide_true, decide_false, Bool.and_self, Bool.false_eq_true, and_self, Nat.zero_add, Nat.lt_add_one, eq_self]
  · intro i z hi hz hp
    have hi' : (i : Int) < (out.length : Int) := by omega
    have hp' : z = x := by have := of_decide_eq_false hp; exact Classical.not_not.1 this
    simp only [c_program_Reachable_L2, Int.natCast_nonneg, Int.toNat_natCast, List.getElem?_map, Option.map_some, hz, hi, hi', hp', intC, Go.Ev.exec, Go.Ev.evOpers, Go.Ev.evOper, Go.Ev.item_op, Go.Ev.evOp, Go.Ev.Opnd.ev, Go.Ev.Env.get, Go.Ev.Env.set, Go.Ev.look, Go.Ev.cellsAt, Go.Ev.loadC, Go.Ev.bin_eql, Go.Ev.bin_lss, ↓Go.Ev.obind, Go.Ev.it1, ↓reduceIte, List.getElem?_cons_zero, List.drop_zero, List.head?_cons, Nat.reduceEqDiff, reduceCtorEq, decide_true, Bool.false_eq_true, and_self, Nat.zero_add, eq_self]
    exact ⟨_, rfl, rfl, rfl, rfl, rfl, rfl, rfl⟩
  · simp only [c_program_Reachable_L2, Int.lt_irrefl, Go.Ev.exec, Go.Ev.evOpers, Go.Ev.evOper, Go.Ev.item_op, Go.Ev.evOp, Go.Ev.Opnd.ev, Go.Ev.Env.get, Go.Ev.Env.set, Go.Ev.look, Go.Ev.bin_lss, ↓Go.Ev.obind, Go.Ev.it1, ↓reduceIte, Nat.reduceEqDiff, reduceCtorEq, decide_false, Bool.false_eq_true, eq_self]
    exact ⟨_, rfl, rfl, rfl, rfl, rfl, rfl, rfl, rfl⟩
theorem reach_loop (hv : PV p) :
    ∃ y, itB (exec (evL T) itL none c_program_Reachable_L1) (Ev.settle [0, 3, 4] true 2) ⟨[(0, (.fsl ((p).map OpI.r) c)), (3, .sl 0 0 0 0 false), (4, .sl 1 0 0 1 true)], []⟩ [.row 1 [] 0, .row 1 [[(.v (.int .i64 (0)))]] 0] = some y ∧
      ∃ s : RS, y.1 = .exit 0 ∧ y.2.1.marks = [] ∧ y.2.2 = [.row 1 ((s.out).map intC) s.g, .row 1 ((s.wf).map intC) s.gw] ∧ Ev.look y.2.1.vars 3 = some (.sl 0 s.g 0 s.out.length false) ∧ RInv p s.out [] := by
  have hp16 := hv.len
  have key := itB_while (f := exec (evL T) itL none c_program_Reachable_L1) (s := Ev.settle [0, 3, 4] true 2) (τ := RS)
    (fun s => ⟨[(0, (.fsl ((p).map OpI.r) c)), (3, .sl 0 s.g 0 s.out.length false), (4, .sl 1 s.gw 0 s.wl s.cw)], []⟩) (fun s => [.row 1 ((s.out).map intC) s.g, .row 1 ((s.wf).map intC) s.gw]) (fun s => (p.length - s.out.length) * 4 + s.wl)
    (fun s => RInv p s.out (s.wf.take s.wl) ∧ s.wl ≤ s.wf.length)
    (fun y => ∃ s : RS, y.1 = .exit 0 ∧ y.2.1.marks = [] ∧ y.2.2 = [.row 1 ((s.out).map intC) s.g, .row 1 ((s.wf).map intC) s.gw] ∧ Ev.look y.2.1.vars 3 = some (.sl 0 s.g 0 s.out.length false) ∧ RInv p s.out []) ?_ ⟨[], 0, [0], 1, 0, true⟩
    ⟨⟨by simp, fun x hx => by simp at hx, fun x hx => by simp at hx; subst hx; exact ⟨by omega, by omega⟩, fun x hx => by simp at hx, fun x hx => by simp at hx; exact .inl hx, fun x hx => by simp at hx, .inr (by simp), by simp⟩, by simp⟩
  · exact key
  rintro ⟨out, g, wf, wl, gw, cw⟩ ⟨hI, hwl⟩
  simp only at hI hwl ⊢
  have hol := nodup_len hI.nodup hI.ro
  have hlw := hI.lenW
  have htl : (wf.take wl).length = wl := by simp; omega
  rw [htl] at hlw
  cases wl with
  | zero =>
    right
    simp only [c_program_Reachable_L1, Int.lt_irrefl, gt_iff_lt, Go.Ev.exec, Go.Ev.evOpers, Go.Ev.evOper, Go.Ev.item_op, Go.Ev.evOp, Go.Ev.Opnd.ev, Go.Ev.Env.get, Go.Ev.Env.set, Go.Ev.look, Go.Ev.bin_gtr, ↓Go.Ev.obind, Go.Ev.it1, ↓reduceIte, Nat.reduceEqDiff, Int.cast_ofNat_Int, reduceCtorEq, decide_false, Bool.false_eq_true, eq_self]
    exact ⟨_, rfl, ⟨out, g, wf, 0, gw, cw⟩, rfl, rfl, rfl, rfl, by simpa using hI⟩
  | succ m =>
    obtain ⟨w, hw⟩ : ∃ w, w = m + 1 := ⟨_, rfl⟩
    rw [← hw] at hI hwl hlw ⊢
    obtain ⟨x, hx⟩ : ∃ x, wf[m]? = some x := ⟨_, List.getElem?_eq_getElem (by omega)⟩
    have hsplit : wf.take w = wf.take m ++ [x] := by rw [hw]; exact take_next hx
    rw [hsplit] at hI
    have hxr := hI.rw x (by simp)
    obtain ⟨i, hi⟩ : ∃ i : Nat, x = (i : Int) := ⟨x.toNat, by have := hxr.1; omega⟩
    obtain ⟨op, hop⟩ : ∃ op, p[i]? = some op := ⟨_, List.getElem?_eq_getElem (by have := hxr.2; omega)⟩
    have c1 : (w : Int) > 0 := by omega
    have w1 : IntKind.i64.wrap ((w : Int) - 1) = (m : Int) := w64_sub1 hw (by omega)
    have rm : m < w := by omega
    have c2 : (m : Int) ≤ (w : Int) := by omega
    have c3 : ¬ (m : Int) = (w : Int) := by omega
    obtain ⟨⟨y, e, σ⟩, k1, k2⟩ := reach_find p c out g wf m gw false x (by omega)
    simp only at k1 k2
    subst hi
    left
    rcases k2 with ⟨hall, rfl, k3, rfl, k4, k5, k6, k7⟩ | ⟨hall, z, hz, rfl, k3, rfl, k4, k5, k6⟩
    · have hnot : (i : Int) ∉ out := fun hm => by
        have := List.all_eq_true.1 hall _ hm
        simp at this
      have hadd := hI.add hv hnot
      have hno : nextOf p (i : Int) = succL p i op ++ (if op.code = 3 then [op.b] else []) := by
        unfold nextOf; rw [Int.toNat_natCast, hop]; rfl
      have hs := succ_ev p c i op hop (by have := hxr.2; omega)
      have hol2 : (out ++ [(i : Int)]).length ≤ p.length := nodup_len hadd.nodup hadd.ro
      rw [List.length_append, List.length_cons, List.length_nil] at hol2
      have b1 : (out.length + 1) * 8 ≤ 140737488355328 := by omega
      have ro : List.take out.length (out.map intC) = out.map intC := List.take_of_length_le (by simp)
      have rw' : List.take m (wf.map intC) = (wf.take m).map intC := (List.map_take ..).symm
      have ho2 : (out ++ [(i : Int)]).map intC = out.map intC ++ [[(.v (.int .i64 ((i : Int))))]] := by rw [List.map_append]; rfl
      have hlm : (wf.take m).length = m := by simp; omega
      have lwf : m ≤ wf.length := by omega
      generalize hwm : wf.take m = W at hadd rw' hlm
      generalize hsl : succL p i op = SL at hs hno
      have hSL : SL.length ≤ 3 := by
        have := nextL_len p i op
        unfold nextL at this
        rw [hsl, List.length_append] at this; omega
      have b2 : (m + SL.length) * 8 ≤ 140737488355328 := by omega
      have b3 : (m + SL.length + 1) * 8 ≤ 140737488355328 := by omega
      have b4 : (m + 1) * 8 ≤ 140737488355328 := by omega
      have b0 : m * 8 ≤ 140737488355328 := by omega
      have tkW : ∀ l : List Int, List.take (m + l.length) (W.map intC ++ l.map intC) = W.map intC ++ l.map intC := fun l => List.take_of_length_le (by simp; omega)
      by_cases h3 : op.code = 3
      · rw [if_pos h3] at hno
        by_cases hS0 : SL = []
        · subst hS0
          refine ⟨⟨out ++ [(i : Int)], g + 1, W ++ [op.b], m + 1, gw + 1, false⟩, ?_, ⟨?_, by simp; omega⟩, ?_⟩
          · simp only
            rw [ho2, List.map_append]
            obtain ⟨k, a, b, d⟩ := op
            simp only at h3
            subst h3
            simp only [List.map_nil] at hs tkW
            simp only [c_program_Reachable_L1, Int.natCast_nonneg, Int.toNat_natCast, List.getElem?_map, Option.map_some, hx, hop, c1, c2, c3, w1, rm, k1, k3, k4, k5, k6, k7, hs, b0, b1, b4, ro, rw', lwf, OpI.r, List.map_cons, List.map_nil, intC, okRows_nil, loss_append, Int.le_refl, Nat.sub_zero, List.length_append, prog_lo, ints_lo, Go.Ev.exec, Go.Ev.evOpers, Go.Ev.evOper, Go.Ev.item_op, Go.Ev.item_P, Go.Ev.evOp, Go.Ev.appE, Go.Ev.evs, Go.Ev.Opnd.ev, Go.Ev.Env.get, Go.Ev.Env.set, Go.Ev.look, Go.Ev.optInt, Go.Ev.cellsAt, Go.Ev.content, Go.Ev.loadC, Go.Ev.fillR, Go.Ev.AV.cells, Go.Ev.AV.uc, Go.Ev.plains, Go.Ev.AV.plain, Go.Ev.bin_sub, Go.Ev.bin_eql, Go.Ev.bin_gtr, Go.Ev.settle, Go.Ev.keep, Go.Ev.varsLo, Go.Ev.marksLo, Go.Ev.storeLo, Go.Ev.SObj.lo, Go.Ev.lo_v, Go.Ev.lo_fsl, Go.Ev.lo_sl, Go.Ev.los_nil, Go.Ev.los_cons, Go.Ev.loss_nil, Go.Ev.loss_cons, Go.Ev.okRows_nil, Go.Ev.okRows_cons, List.replicate_one, List.length_map, ↓Go.Ev.obind, ↓Go.Ev.itL_itB, Go.Ev.it1, ↓reduceIte, List.length_cons, List.length_nil, List.length_append, List.getElem?_cons_zero, List.getElem?_cons_succ, List.take_succ_cons, List.take_nil, List.drop_succ_cons, List.drop_zero, List.set_cons_zero, List.set_cons_succ, List.head?_cons, Nat.reduceAdd, Nat.reduceEqDiff, Nat.reduceMul, Nat.reduceLT, Nat.reduceLeDiff, Nat.reducePow, Int.reduceToNat, reduceCtorEq, decide_true, decide_false, Bool.and_self, Bool.false_eq_true, and_self, ne_eq, not_false_eq_true, List.cons_ne_nil, Nat.zero_add, Nat.add_zero, Nat.lt_add_one, Nat.le_refl, Option.isSome_some, Option.isSome_none, eq_self, implies_true, Bool.and_false]
          · rw [hno, List.nil_append] at hadd
            have : (W ++ [op.b]).take (m + 1) = W ++ [op.b] := List.take_of_length_le (by simp; omega)
            simp only; rw [this]; exact hadd
          · simp only [List.length_append, List.length_cons, List.length_nil]; omega
        · have nS : ¬ SL.map intC = [] := by simpa using hS0
          have oS : okRows 1 (SL.map intC) = true := ints_ok SL
          refine ⟨⟨out ++ [(i : Int)], g + 1, W ++ (SL ++ [op.b]), m + SL.length + 1, gw + 1 + 1, false⟩, ?_, ⟨?_, by simp; omega⟩, ?_⟩
          · simp only
            rw [ho2, List.map_append, List.map_append]
            obtain ⟨k, a, b, d⟩ := op
            simp only at h3
            subst h3
            simp only [c_program_Reachable_L1, Int.natCast_nonneg, Int.toNat_natCast, List.getElem?_map, Option.map_some, hx, hop, c1, c2, c3, w1, rm, k1, k3, k4, k5, k6, k7, hs, b1, b2, b3, hlm, ro, rw', lwf, tkW, OpI.r, List.map_cons, List.map_nil, intC, okRows_nil, loss_append, Int.le_refl, Nat.sub_zero, List.length_append, nS, oS, List.append_assoc, prog_lo, ints_lo, Go.Ev.exec, Go.Ev.evOpers, Go.Ev.evOper, Go.Ev.item_op, Go.Ev.item_P, Go.Ev.evOp, Go.Ev.appE, Go.Ev.evs, Go.Ev.Opnd.ev, Go.Ev.Env.get, Go.Ev.Env.set, Go.Ev.look, Go.Ev.optInt, Go.Ev.cellsAt, Go.Ev.content, Go.Ev.loadC, Go.Ev.fillR, Go.Ev.AV.cells, Go.Ev.AV.uc, Go.Ev.plains, Go.Ev.AV.plain, Go.Ev.bin_sub, Go.Ev.bin_eql, Go.Ev.bin_gtr, Go.Ev.settle, Go.Ev.keep, Go.Ev.varsLo, Go.Ev.marksLo, Go.Ev.storeLo, Go.Ev.SObj.lo, Go.Ev.lo_v, Go.Ev.lo_fsl, Go.Ev.lo_sl, Go.Ev.los_nil, Go.Ev.los_cons, Go.Ev.loss_nil, Go.Ev.loss_cons, Go.Ev.okRows_nil, Go.Ev.okRows_cons, List.replicate_one, List.length_map, ↓Go.Ev.obind, ↓Go.Ev.itL_itB, Go.Ev.it1, ↓reduceIte, List.length_cons, List.length_nil, List.length_append, List.getElem?_cons_zero, List.getElem?_cons_succ, List.take_succ_cons, List.take_nil, List.drop_succ_cons, List.drop_zero, List.set_cons_zero, List.set_cons_succ, List.head?_cons, Nat.reduceAdd, Nat.reduceEqDiff, Nat.reduceMul, Nat.reduceLT, Nat.reduceLeDiff, Nat.reducePow, Int.reduceToNat, reduceCtorEq, decide_true, decide_false, Bool.and_self, Bool.false_eq_true, and_self, ne_eq, not_false_eq_true, List.cons_ne_nil, Nat.zero_add, Nat.add_zero, Nat.lt_add_one, Nat.le_refl, Option.isSome_some, Option.isSome_none, eq_self, implies_true, Bool.and_false]
          · rw [hno] at hadd
            have : (W ++ (SL ++ [op.b])).take (m + SL.length + 1) = W ++ (SL ++ [op.b]) := List.take_of_length_le (by simp; omega)
            simp only; rw [this]; exact hadd
          · simp only [List.length_append, List.length_cons, List.length_nil]; omega
      · rw [if_neg h3, List.append_nil] at hno
        by_cases hS0 : SL = []
        · subst hS0
          refine ⟨⟨out ++ [(i : Int)], g + 1, wf, m, gw, false⟩, ?_, ⟨?_, by simp only; omega⟩, ?_⟩
          · simp only
            rw [ho2]
            obtain ⟨k, a, b, d⟩ := op
            simp only at h3
            simp only [List.map_nil] at hs tkW
            simp only [c_program_Reachable_L1, Int.natCast_nonneg, Int.toNat_natCast, List.getElem?_map, Option.map_some, hx, hop, c1, c2, c3, w1, rm, k1, k3, k4, k5, k6, k7, hs, b0, b1, ro, lwf, OpI.r, intC, okRows_nil, loss_append, Int.le_refl, Nat.sub_zero, List.length_append, h3, prog_lo, ints_lo, Go.Ev.exec, Go.Ev.evOpers, Go.Ev.evOper, Go.Ev.item_op, Go.Ev.item_P, Go.Ev.evOp, Go.Ev.appE, Go.Ev.evs, Go.Ev.Opnd.ev, Go.Ev.Env.get, Go.Ev.Env.set, Go.Ev.look, Go.Ev.optInt, Go.Ev.cellsAt, Go.Ev.content, Go.Ev.loadC, Go.Ev.fillR, Go.Ev.AV.cells, Go.Ev.AV.uc, Go.Ev.plains, Go.Ev.AV.plain, Go.Ev.bin_sub, Go.Ev.bin_eql, Go.Ev.bin_gtr, Go.Ev.settle, Go.Ev.keep, Go.Ev.varsLo, Go.Ev.marksLo, Go.Ev.storeLo, Go.Ev.SObj.lo, Go.Ev.lo_v, Go.Ev.lo_fsl, Go.Ev.lo_sl, Go.Ev.los_nil, Go.Ev.los_cons, Go.Ev.loss_nil, Go.Ev.loss_cons, Go.Ev.okRows_nil, Go.Ev.okRows_cons, List.replicate_one, List.length_map, ↓Go.Ev.obind, ↓Go.Ev.itL_itB, Go.Ev.it1, ↓reduceIte, List.length_cons, List.length_nil, List.length_append, List.getElem?_cons_zero, List.getElem?_cons_succ, List.take_succ_cons, List.take_nil, List.drop_zero, List.set_cons_zero, List.head?_cons, Nat.reduceAdd, Nat.reduceEqDiff, Nat.reduceMul, Nat.reduceLT, Nat.reduceLeDiff, Nat.reducePow, Int.reduceToNat, reduceCtorEq, decide_true, decide_false, Bool.and_self, Bool.false_eq_true, and_self, ne_eq, not_false_eq_true, List.cons_ne_nil, Nat.zero_add, Nat.add_zero, Nat.lt_add_one, Nat.le_refl, Option.isSome_some, Option.isSome_none, eq_self, implies_true, Bool.and_false]
          · rw [hno, List.append_nil] at hadd
            simp only; rw [hwm]; exact hadd
          · simp only [List.length_append, List.length_cons, List.length_nil]; omega
        · have nS : ¬ SL.map intC = [] := by simpa using hS0
          have oS : okRows 1 (SL.map intC) = true := ints_ok SL
          refine ⟨⟨out ++ [(i : Int)], g + 1, W ++ SL, m + SL.length, gw + 1, false⟩, ?_, ⟨?_, by simp; omega⟩, ?_⟩
          · simp only
            rw [ho2, List.map_append]
            obtain ⟨k, a, b, d⟩ := op
            simp only at h3
            simp only [c_program_Reachable_L1, Int.natCast_nonneg, Int.toNat_natCast, List.getElem?_map, Option.map_some, hx, hop, c1, c2, c3, w1, rm, k1, k3, k4, k5, k6, k7, hs, b1, b2, ro, rw', lwf, OpI.r, intC, okRows_nil, loss_append, Int.le_refl, Nat.sub_zero, List.length_append, h3, nS, oS, prog_lo, ints_lo, Go.Ev.exec, Go.Ev.evOpers, Go.Ev.evOper, Go.Ev.item_op, Go.Ev.item_P, Go.Ev.evOp, Go.Ev.appE, Go.Ev.evs, Go.Ev.Opnd.ev, Go.Ev.Env.get, Go.Ev.Env.set, Go.Ev.look, Go.Ev.optInt, Go.Ev.cellsAt, Go.Ev.content, Go.Ev.loadC, Go.Ev.fillR, Go.Ev.AV.cells, Go.Ev.AV.uc, Go.Ev.plains, Go.Ev.AV.plain, Go.Ev.bin_sub, Go.Ev.bin_eql, Go.Ev.bin_gtr, Go.Ev.settle, Go.Ev.keep, Go.Ev.varsLo, Go.Ev.marksLo, Go.Ev.storeLo, Go.Ev.SObj.lo, Go.Ev.lo_v, Go.Ev.lo_fsl, Go.Ev.lo_sl, Go.Ev.los_nil, Go.Ev.los_cons, Go.Ev.loss_nil, Go.Ev.loss_cons, Go.Ev.okRows_nil, Go.Ev.okRows_cons, List.replicate_one, List.length_map, ↓Go.Ev.obind, ↓Go.Ev.itL_itB, Go.Ev.it1, ↓reduceIte, List.length_cons, List.length_nil, List.length_append, List.getElem?_cons_zero, List.getElem?_cons_succ, List.take_succ_cons, List.take_nil, List.drop_zero, List.set_cons_zero, List.set_cons_succ, List.head?_cons, Nat.reduceAdd, Nat.reduceEqDiff, Nat.reduceMul, Nat.reduceLT, Nat.reduceLeDiff, Nat.reducePow, Int.reduceToNat, reduceCtorEq, decide_true, decide_false, Bool.and_self, Bool.false_eq_true, and_self, ne_eq, not_false_eq_true, List.cons_ne_nil, Nat.zero_add, Nat.add_zero, Nat.lt_add_one, Nat.le_refl, Option.isSome_some, Option.isSome_none, eq_self, implies_true, Bool.and_false]
          · rw [hno] at hadd
            have : (W ++ SL).take (m + SL.length) = W ++ SL := List.take_of_length_le (by simp; omega)
            simp only; rw [this]; exact hadd
          · simp only [List.length_append, List.length_cons, List.length_nil]; omega
    · have hin : (i : Int) ∈ out := by
        have h1 := List.mem_of_find?_eq_some hz
        have h2 := List.find?_some hz
        simp at h2
        rw [← h2]; exact h1
      refine ⟨⟨out, g, wf, m, gw, false⟩, ?_, ⟨hI.skip hin, by simp only; omega⟩, by simp only; omega⟩
      simp only [c_program_Reachable_L1, Int.natCast_nonneg, Int.toNat_natCast, List.getElem?_map, Option.map_some, hx, c1, c2, c3, w1, rm, k1, k3, k4, k5, k6, intC, Int.le_refl, Nat.sub_zero, prog_lo, ints_lo, Go.Ev.exec, Go.Ev.evOpers, Go.Ev.evOper, Go.Ev.item_op, Go.Ev.evOp, Go.Ev.Opnd.ev, Go.Ev.Env.get, Go.Ev.Env.set, Go.Ev.look, Go.Ev.optInt, Go.Ev.cellsAt, Go.Ev.loadC, Go.Ev.bin_sub, Go.Ev.bin_gtr, Go.Ev.settle, Go.Ev.keep, Go.Ev.varsLo, Go.Ev.marksLo, Go.Ev.storeLo, Go.Ev.SObj.lo, Go.Ev.lo_v, Go.Ev.lo_fsl, Go.Ev.lo_sl, ↓Go.Ev.obind, ↓Go.Ev.itL_itB, Go.Ev.it1, ↓reduceIte, List.length_cons, List.length_nil, List.getElem?_cons_zero, List.getElem?_cons_succ, List.take_succ_cons, List.take_nil, List.drop_zero, List.head?_cons, Nat.reduceAdd, Nat.reduceEqDiff, Nat.reduceLT, Int.reduceToNat, reduceCtorEq, decide_true, decide_false, Bool.and_self, Bool.false_eq_true, and_self, Nat.zero_add, Nat.add_zero, Nat.lt_add_one, Option.isSome_some, Option.isSome_none, eq_self, implies_true, Bool.and_false]
end
end Go.Proofs.Ytbkabnhkclbepaa.K

namespace Go.Proofs.Ytbkabnhkclbepaa.K
open Go.Ev
set_option linter.unusedSimpArgs false
set_option linter.unusedVariables false
set_option maxRecDepth 10000
structure Reached (p : List OpI) (S : List Int) : Prop where
  sorted : LeI S
  nodup : S.Nodup
  rng : ∀ x ∈ S, InR p x
  zero : (0 : Int) ∈ S
  frm : ∀ x ∈ S, x = 0 ∨ ∃ y ∈ S, x ∈ nextOf p y
  clo : ∀ y ∈ S, ∀ s ∈ nextOf p y, s ∈ S
def MS (p : List OpI) (T : List Int) (n : Int) : Prop :=
  (n = -1 ∧ ∀ s ∈ T, ∀ x, p[s.toNat]? = some x → ¬ x.code = 2) ∨ (1 ≤ n ∧ (∃ s ∈ T, ∃ x, p[s.toNat]? = some x ∧ x.code = 2 ∧ x.c = n) ∧ ∀ s ∈ T, ∀ x, p[s.toNat]? = some x → x.code = 2 → n ≤ x.c)
section
variable (p : List OpI) (c : Bool)
theorem Reachable_ev (hv : PV p) : ∃ S : List Int, Reached p S ∧ callZ (evL T) n_program_Reachable [(.fsl ((p).map OpI.r) c)] = some (.fsl ((S).map intC) false) := by
  obtain ⟨⟨y, e, σ⟩, k1, s, k2, k3, k4, k5, k6⟩ := reach_loop p c hv
  simp only at k1 k2 k3 k4 k5
  subst k2; subst k4
  have hl := nodup_len k6.nodup k6.ro
  have hp := hv.len
  obtain ⟨S, h1, h2, h3⟩ := slices_Sort_ev s.g false s.wf s.gw s.out (by omega)
  have hlS := h1.length_eq
  have mem := fun x => h1.mem_iff (a := x)
  refine ⟨S, ⟨h2, h1.nodup_iff.2 k6.nodup, fun x hx => k6.ro x ((mem x).1 hx), (mem 0).2 (k6.zero.elim id fun h => by simp at h), fun x hx => ?_, fun y hy t ht => ?_⟩, ?_⟩
  · exact (k6.fo x ((mem x).1 hx)).imp id fun ⟨y, hy, k⟩ => ⟨y, (mem y).2 hy, k⟩
  · exact (mem t).2 ((k6.clo y ((mem y).1 hy) t ht).elim id fun h => by simp at h)
  have tk : List.take s.out.length (S.map intC) = S.map intC := List.take_of_length_le (by simp; omega)
  have hle : s.out.length ≤ S.length := by omega
  rw [callZ, evL_code ext_program_Reachable code_program_Reachable]
  have hrep : ∀ v : List AV, List.replicate 1 v = [v] := fun _ => rfl
  simp only [c_program_Reachable, hrep, k1, k3, k5, h3, tk, hlS, prog_lo, ints_lo, Go.Ev.runFunc, Go.Ev.exec, Go.Ev.evOpers, Go.Ev.evOper, Go.Ev.item_op, Go.Ev.item_I, Go.Ev.evOp, Go.Ev.evs, Go.Ev.Opnd.ev, Go.Ev.Env.get, Go.Ev.Env.set, Go.Ev.look, Go.Ev.argVars, Go.Ev.fillR, Go.Ev.AV.cells, Go.Ev.AV.uc, Go.Ev.plains, Go.Ev.AV.plain, Go.Ev.resVals, Go.Ev.resVal, Go.Ev.resOf, Go.Ev.kill, Go.Ev.leave, Go.Ev.settle, Go.Ev.keep, Go.Ev.varsLo, Go.Ev.marksLo, Go.Ev.storeLo, Go.Ev.SObj.lo, Go.Ev.lo_v, Go.Ev.lo_fsl, Go.Ev.lo_sl, Go.Ev.los_nil, Go.Ev.los_cons, Go.Ev.loss_nil, Go.Ev.loss_cons, Go.Ev.frz_own, Go.Ev.omap_los, List.length_map, ↓Go.Ev.obind, ↓Go.Ev.itL_itB, ↓reduceIte, List.length_cons, List.length_nil, List.getElem?_cons_zero, List.take_succ_cons, List.take_zero, List.take_nil, List.drop_zero, List.cons_append, List.nil_append, List.set_cons_zero, Nat.reduceAdd, Nat.reduceEqDiff, Nat.reduceMul, Nat.reduceLT, Nat.reduceLeDiff, Nat.reducePow, reduceCtorEq, decide_true, decide_false, Bool.and_self, Bool.false_eq_true, and_self, and_true, ne_eq, not_false_eq_true, List.cons_ne_nil, Nat.zero_add, Nat.lt_add_one, Nat.le_refl, eq_self]
theorem MinSend_ev (hv : PV p) {S : List Int} (hr : Reached p S) (hR : callZ (evL T) n_program_Reachable [(.fsl ((p).map OpI.r) c)] = some (.fsl ((S).map intC) false)) : ∃ n : Int, MS p S n ∧ callZ (evL T) n_program_MinSend [(.fsl ((p).map OpI.r) c)] = some (.v (.int .i64 (n))) := by
  have hl := nodup_len hr.nodup hr.rng
  have hp := hv.len
  have key := itB_for (f := exec (evL T) itL none c_program_MinSend_L1) (s := Ev.settle [0, 3, 7, 8, 9] true 0) (α := Int) (fun i n => ⟨[(0, (.fsl ((p).map OpI.r) c)), (3, (.v (.int .i64 (n)))), (7, (.fsl ((S).map intC) false)), (8, (.v (.int .i64 (S.length)))), (9, (.v (.int .i64 (i))))], []⟩) (fun _ _ => [])
    (fun i n => MS p (S.take i) n) S.length (fun y => ∃ n : Int, MS p S n ∧ y.1 = .exit 0 ∧ y.2.1.marks = [] ∧ y.2.2 = [] ∧ Ev.look y.2.1.vars 3 = some (.v (.int .i64 (n)))) ?_ ?_ 0 (-1) (Nat.zero_le _) (.inl ⟨rfl, fun s hs => by simp at hs⟩)
  · obtain ⟨⟨y, e, σ⟩, k1, n, k2, k3, k4, k5, k6⟩ := key
    simp only [Int.ofNat_zero] at k1 k3 k4 k5 k6
    subst k3; subst k5
    refine ⟨n, k2, ?_⟩
    rw [callZ, evL_code ext_program_MinSend code_program_MinSend]
    simp only [c_program_MinSend, hR, k1, k4, k6, prog_lo, ints_lo, Go.Ev.runFunc, Go.Ev.exec, Go.Ev.evOpers, Go.Ev.evOper, Go.Ev.item_op, Go.Ev.item_P, Go.Ev.evOp, Go.Ev.evs, Go.Ev.Opnd.ev, Go.Ev.Env.get, Go.Ev.Env.set, Go.Ev.look, Go.Ev.argVars, Go.Ev.resVals, Go.Ev.resVal, Go.Ev.resOf, Go.Ev.kill, Go.Ev.leave, Go.Ev.settle, Go.Ev.keep, Go.Ev.varsLo, Go.Ev.marksLo, Go.Ev.storeLo, Go.Ev.lo_v, Go.Ev.lo_fsl, Go.Ev.los_nil, Go.Ev.los_cons, Go.Ev.frz_lo, List.length_map, ↓Go.Ev.obind, ↓Go.Ev.itL_itB, ↓reduceIte, List.length_cons, List.length_nil, List.take_nil, Nat.reduceEqDiff, Int.reduceNeg, reduceCtorEq, Bool.and_self, and_self, Nat.zero_add, eq_self]
  · rintro i n hi hn
    obtain ⟨s, hs⟩ : ∃ s, S[i]? = some s := ⟨_, List.getElem?_eq_getElem hi⟩
    have hsr := hr.rng s (List.mem_of_getElem? hs)
    obtain ⟨j, rfl⟩ : ∃ j : Nat, s = (j : Int) := ⟨s.toNat, by have := hsr.1; omega⟩
    obtain ⟨x, hx⟩ : ∃ x, p[j]? = some x := ⟨_, List.getElem?_eq_getElem (by have := hsr.2; omega)⟩
    have hi' : (i : Int) < (S.length : Int) := by omega
    have hw : IntKind.i64.wrap ((i : Int) + 1) = ((i + 1 : Nat) : Int) := w64_add1 (by omega)
    have hsend := hv.send x (List.mem_of_getElem? hx)
    have ext : ∀ {t : Int} {z : OpI}, t ∈ S.take (i + 1) → p[t.toNat]? = some z → t ∈ S.take i ∨ z = x := by
      intro t z ht hz
      rw [take_next hs] at ht
      rcases List.mem_append.1 ht with ht | ht
      · exact .inl ht
      · rw [List.mem_singleton] at ht; subst ht
        rw [Int.toNat_natCast, hx] at hz; exact .inr (Option.some.inj hz).symm
    have old : ∀ {t : Int}, t ∈ S.take i → t ∈ S.take (i + 1) := fun ht => by rw [take_next hs]; exact List.mem_append_left _ ht
    have new : (j : Int) ∈ S.take (i + 1) := by rw [take_next hs]; simp
    have gj : p[(j : Int).toNat]? = some x := by rw [Int.toNat_natCast]; exact hx
    by_cases h2 : x.code = 2
    · have hx1 := hsend h2
      by_cases hneg : n < 0
      · refine .inl ⟨x.c, ?_, .inr ⟨hx1, ⟨j, new, x, gj, h2, rfl⟩, fun t ht z hz hc => ?_⟩⟩
        · obtain ⟨k, a, b, d⟩ := x
          simp only at h2
          subst h2
          simp only [c_program_MinSend_L1, Int.natCast_nonneg, Int.toNat_natCast, List.getElem?_map, Option.map_some, hs, hx, hi', hw, hneg, OpI.r, intC, prog_lo, ints_lo, Go.Ev.exec, Go.Ev.evOpers, Go.Ev.evOper, Go.Ev.item_op, Go.Ev.evOp, Go.Ev.Opnd.ev, Go.Ev.Env.get, Go.Ev.Env.set, Go.Ev.Env.unset, Go.Ev.look, Go.Ev.cellsAt, Go.Ev.loadC, Go.Ev.bin_add, Go.Ev.bin_eql, Go.Ev.bin_lss, Go.Ev.settle, Go.Ev.keep, Go.Ev.varsLo, Go.Ev.marksLo, Go.Ev.storeLo, Go.Ev.lo_v, Go.Ev.lo_fsl, ↓Go.Ev.obind, Go.Ev.it1, ↓reduceIte, List.length_cons, List.length_nil, List.take_nil, List.drop_succ_cons, List.drop_zero, List.head?_cons, Nat.reduceAdd, Nat.reduceEqDiff, reduceCtorEq, decide_true, Bool.and_self, Bool.false_eq_true, Bool.true_eq_false, and_self, Nat.zero_add, eq_self]
        · rcases ext ht hz with k | k
          · rcases hn with ⟨_, hn⟩ | ⟨hn, _⟩
            · exact absurd hc (hn t k z hz)
            · omega
          · rw [k]; omega
      · rcases hn with ⟨hn, _⟩ | ⟨hn1, ⟨t0, ht0, z0, hz0, hc0, he0⟩, hn3⟩
        · omega
        by_cases hlt : x.c < n
        · refine .inl ⟨x.c, ?_, .inr ⟨hx1, ⟨j, new, x, gj, h2, rfl⟩, fun t ht z hz hc => ?_⟩⟩
          · obtain ⟨k, a, b, d⟩ := x
            simp only at h2 hlt
            subst h2
            simp only [c_program_MinSend_L1, Int.natCast_nonneg, Int.toNat_natCast, List.getElem?_map, Option.map_some, hs, hx, hi', hw, hneg, hlt, OpI.r, intC, prog_lo, ints_lo, Go.Ev.exec, Go.Ev.evOpers, Go.Ev.evOper, Go.Ev.item_op, Go.Ev.evOp, Go.Ev.Opnd.ev, Go.Ev.Env.get, Go.Ev.Env.set, Go.Ev.look, Go.Ev.cellsAt, Go.Ev.loadC, Go.Ev.bin_add, Go.Ev.bin_eql, Go.Ev.bin_lss, Go.Ev.settle, Go.Ev.keep, Go.Ev.varsLo, Go.Ev.marksLo, Go.Ev.storeLo, Go.Ev.lo_v, Go.Ev.lo_fsl, ↓Go.Ev.obind, Go.Ev.it1, ↓reduceIte, List.length_cons, List.length_nil, List.take_nil, List.drop_succ_cons, List.drop_zero, List.head?_cons, Nat.reduceAdd, Nat.reduceEqDiff, reduceCtorEq, decide_true, decide_false, Bool.and_self, Bool.false_eq_true, and_self, Nat.zero_add, eq_self]
          · rcases ext ht hz with k | k
            · have := hn3 t k z hz hc; omega
            · rw [k]; omega
        · refine .inl ⟨n, ?_, .inr ⟨hn1, ⟨t0, old ht0, z0, hz0, hc0, he0⟩, fun t ht z hz hc => ?_⟩⟩
          · obtain ⟨k, a, b, d⟩ := x
            simp only at h2 hlt
            subst h2
            simp only [c_program_MinSend_L1, Int.natCast_nonneg, Int.toNat_natCast, List.getElem?_map, Option.map_some, hs, hx, hi', hw, hneg, hlt, OpI.r, intC, prog_lo, ints_lo, Go.Ev.exec, Go.Ev.evOpers, Go.Ev.evOper, Go.Ev.item_op, Go.Ev.evOp, Go.Ev.Opnd.ev, Go.Ev.Env.get, Go.Ev.Env.set, Go.Ev.look, Go.Ev.cellsAt, Go.Ev.loadC, Go.Ev.bin_add, Go.Ev.bin_eql, Go.Ev.bin_lss, Go.Ev.settle, Go.Ev.keep, Go.Ev.varsLo, Go.Ev.marksLo, Go.Ev.storeLo, Go.Ev.lo_v, Go.Ev.lo_fsl, ↓Go.Ev.obind, Go.Ev.it1, ↓reduceIte, List.length_cons, List.length_nil, List.take_nil, List.drop_succ_cons, List.drop_zero, List.head?_cons, Nat.reduceAdd, Nat.reduceEqDiff, reduceCtorEq, decide_true, decide_false, Bool.and_self, Bool.false_eq_true, and_self, Nat.zero_add, eq_self]
          · rcases ext ht hz with k | k
            · exact hn3 t k z hz hc
            · rw [k]; omega
    · refine .inl ⟨n, ?_, ?_⟩
      · obtain ⟨k, a, b, d⟩ := x
        simp only at h2
        simp only [c_program_MinSend_L1, Int.natCast_nonneg, Int.toNat_natCast, List.getElem?_map, Option.map_some, hs, hx, hi', hw, h2, OpI.r, intC, prog_lo, ints_lo, Go.Ev.exec, Go.Ev.evOpers, Go.Ev.evOper, Go.Ev.item_op, Go.Ev.evOp, Go.Ev.Opnd.ev, Go.Ev.Env.get, Go.Ev.Env.set, Go.Ev.Env.unset, Go.Ev.look, Go.Ev.cellsAt, Go.Ev.loadC, Go.Ev.bin_add, Go.Ev.bin_eql, Go.Ev.bin_lss, Go.Ev.settle, Go.Ev.keep, Go.Ev.varsLo, Go.Ev.marksLo, Go.Ev.storeLo, Go.Ev.lo_v, Go.Ev.lo_fsl, ↓Go.Ev.obind, Go.Ev.it1, ↓reduceIte, List.length_cons, List.length_nil, List.take_nil, List.drop_zero, List.head?_cons, Nat.reduceAdd, Nat.reduceEqDiff, reduceCtorEq, decide_true, decide_false, Bool.and_self, Bool.false_eq_true, and_self, Nat.zero_add, eq_self]
      · rcases hn with ⟨hn, hn2⟩ | ⟨hn1, ⟨t0, ht0, z0, hz0, hc0, he0⟩, hn3⟩
        · refine .inl ⟨hn, fun t ht z hz => ?_⟩
          rcases ext ht hz with k | k
          · exact hn2 t k z hz
          · rw [k]; exact h2
        · refine .inr ⟨hn1, ⟨t0, old ht0, z0, hz0, hc0, he0⟩, fun t ht z hz hc => ?_⟩
          rcases ext ht hz with k | k
          · exact hn3 t k z hz hc
          · rw [k] at hc; exact absurd hc h2
  · rintro n hn
    rw [List.take_length] at hn
    simp only [c_program_MinSend_L1, Int.lt_irrefl, Go.Ev.exec, Go.Ev.evOpers, Go.Ev.evOper, Go.Ev.item_op, Go.Ev.evOp, Go.Ev.Opnd.ev, Go.Ev.Env.get, Go.Ev.Env.set, Go.Ev.look, Go.Ev.bin_lss, ↓Go.Ev.obind, Go.Ev.it1, ↓reduceIte, Nat.reduceEqDiff, reduceCtorEq, decide_false, Bool.false_eq_true, eq_self]
    exact ⟨_, rfl, n, hn, rfl, rfl, rfl, rfl⟩
end
end Go.Proofs.Ytbkabnhkclbepaa.K
