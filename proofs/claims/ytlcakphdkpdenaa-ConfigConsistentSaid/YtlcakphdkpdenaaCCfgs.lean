/- Part of the proofs about this seat's program (module CCfgs). -/
import Derived.Test.YtlcakphdkpdenaaCBase
set_option linter.unusedSectionVars false
set_option linter.unusedSimpArgs false
set_option linter.unusedVariables false
namespace Go.Proofs.Ytlcakphdkpdenaa.K
open Go.Ev
set_option linter.unusedSimpArgs false
set_option linter.unusedVariables false
set_option maxRecDepth 10000
def withinB (n l m : Int) : Bool := decide (n ≥ l) && decide (n ≤ m)
theorem program_within_ev (n l m : Int) : callZ (evL T) n_program_within [(.v (.int .i64 (n))), (.v (.int .i64 (l))), (.v (.int .i64 (m)))] = some (.v (.bool (withinB n l m))) := by
  rw [callZ, evL_code ext_program_within code_program_within]
  by_cases h1 : n ≥ l <;> simp only [withinB, c_program_within, h1, Go.Ev.runFunc, Go.Ev.exec, Go.Ev.evOpers, Go.Ev.evOper, Go.Ev.item_op, Go.Ev.evOp, Go.Ev.Opnd.ev, Go.Ev.Env.get, Go.Ev.Env.set, Go.Ev.Env.unset, Go.Ev.look, Go.Ev.argVars, Go.Ev.bin_leq, Go.Ev.bin_geq, Go.Ev.resVals, Go.Ev.resVal, Go.Ev.resOf, Go.Ev.kill, Go.Ev.leave, Go.Ev.storeLo, Go.Ev.lo_v, Go.Ev.frz_lo, ↓Go.Ev.obind, ↓reduceIte, List.length_cons, List.length_nil, List.take_nil, Nat.reduceAdd, Nat.reduceEqDiff, reduceCtorEq, decide_true, decide_false, Bool.true_and, Bool.false_eq_true, and_self, Nat.zero_add, eq_self, Bool.false_and]
/-- The operands of an instruction, as the program looks at them. -/
def operP (x : OpI) (n ps : Int) : Bool :=
  if x.code = 1 then withinB x.a 1 1099511627776 && (decide (x.b = 0) && decide (x.c = 0))
  else if x.code = 2 then decide (x.a ≥ 0) && (withinB x.b (-1073741824) 1073741824 && withinB x.c 1 1099511627776)
  else if x.code = 3 then withinB x.a 1 1099511627776 && (withinB x.b 0 (n - 1) && decide (x.c = 0))
  else if x.code = 5 then withinB x.a 0 (ps - 1) && (withinB x.b 1 1099511627776 && decide (x.c = 0))
  else if x.code = 6 then withinB x.a 0 1 && (withinB x.b (-1073741824) 1073741824 && decide (x.c = 0))
  else if x.code = 7 then withinB x.a 0 1 && (withinB x.b (-1073741824) 1073741824 && withinB x.c 0 (n - 1))
  else decide (x.a = 0) && (decide (x.b = 0) && decide (x.c = 0))
theorem operP_eq (x : OpI) (n ps : Int) : operP x n ps = operB x n ps := by
  obtain ⟨k, a, b, c⟩ := x
  have e1 : ∀ a m : Int, withinB a 0 (m - 1) = (decide (a ≥ 0) && decide (a < m)) := fun a m => by
    unfold withinB; congr 1; exact decide_eq_decide.2 (by omega)
  have e2 : ∀ a : Int, withinB a 0 1 = (decide (a ≥ 0) && decide (a < 2)) := fun a => e1 a 2
  have e3 : ∀ a : Int, withinB a 1 1099511627776 = delayB a := fun a => rfl
  have e4 : ∀ a : Int, withinB a (-1073741824) 1073741824 = valueB a := fun a => rfl
  simp only [operP, operB, e1, e2, e3, e4, Bool.and_assoc]
section
variable (n ps lps look : Int) (x : OpI)
def okZ (b : Bool) (e : Int) : Int := if b = true then 0 else e
theorem checker_code_ev : (evL T).call n_program_checker_code [(.agg [(.v (.int .i64 (n))), (.v (.int .i64 (ps))), (.v (.int .i64 (lps))), (.v (.int .i64 (look)))]), (.agg [(.v (.int .i64 (x.code))), (.v (.int .i64 (x.a))), (.v (.int .i64 (x.b))), (.v (.int .i64 (x.c)))])] [.row 4 [[(.v (.int .i64 (n))), (.v (.int .i64 (ps))), (.v (.int .i64 (lps))), (.v (.int .i64 (look)))]] 0, .row 4 [[(.v (.int .i64 (x.code))), (.v (.int .i64 (x.a))), (.v (.int .i64 (x.b))), (.v (.int .i64 (x.c)))]] 0] = some ((.v (.int .i64 (okZ (codeB x) 22))), [.row 4 [[(.v (.int .i64 (n))), (.v (.int .i64 (ps))), (.v (.int .i64 (lps))), (.v (.int .i64 (look)))]] 0, .row 4 [[(.v (.int .i64 (x.code))), (.v (.int .i64 (x.a))), (.v (.int .i64 (x.b))), (.v (.int .i64 (x.c)))]] 0]) := by
  rw [evL_code ext_program_checker_code code_program_checker_code]
  have e : codeB x = withinB x.code 1 8 := rfl
  rw [e]
  cases h : withinB x.code 1 8 <;> simp only [c_program_checker_code, program_within_ev, h, okZ, Go.Ev.runFunc, Go.Ev.exec, Go.Ev.evOpers, Go.Ev.evOper, Go.Ev.item_op, Go.Ev.item_P, Go.Ev.evOp, Go.Ev.evs, Go.Ev.Opnd.ev, Go.Ev.Env.get, Go.Ev.Env.set, Go.Ev.look, Go.Ev.argVars, Go.Ev.cellsAt, Go.Ev.loadC, Go.Ev.AV.cells, Go.Ev.plains, Go.Ev.AV.plain, Go.Ev.resVals, Go.Ev.resVal, Go.Ev.resOf, Go.Ev.kill, Go.Ev.leave, Go.Ev.storeLo, Go.Ev.SObj.lo, Go.Ev.lo_v, Go.Ev.los_nil, Go.Ev.los_cons, Go.Ev.loss_nil, Go.Ev.loss_cons, ↓Go.Ev.obind, ↓reduceIte, List.length_cons, List.length_nil, List.take_succ_cons, List.take_nil, List.drop_zero, List.head?_cons, Nat.reduceAdd, Nat.reduceEqDiff, reduceCtorEq, Bool.and_self, Bool.not_true, Bool.not_false, Bool.false_eq_true, and_self, ne_eq, not_false_eq_true, List.cons_ne_nil, Nat.zero_add, eq_self]
theorem checker_target_ev : (evL T).call n_program_checker_target [(.agg [(.v (.int .i64 (n))), (.v (.int .i64 (ps))), (.v (.int .i64 (lps))), (.v (.int .i64 (look)))]), (.agg [(.v (.int .i64 (x.code))), (.v (.int .i64 (x.a))), (.v (.int .i64 (x.b))), (.v (.int .i64 (x.c)))])] [.row 4 [[(.v (.int .i64 (n))), (.v (.int .i64 (ps))), (.v (.int .i64 (lps))), (.v (.int .i64 (look)))]] 0, .row 4 [[(.v (.int .i64 (x.code))), (.v (.int .i64 (x.a))), (.v (.int .i64 (x.b))), (.v (.int .i64 (x.c)))]] 0] = some ((.v (.int .i64 (okZ (tgtB lps x) 23))), [.row 4 [[(.v (.int .i64 (n))), (.v (.int .i64 (ps))), (.v (.int .i64 (lps))), (.v (.int .i64 (look)))]] 0, .row 4 [[(.v (.int .i64 (x.code))), (.v (.int .i64 (x.a))), (.v (.int .i64 (x.b))), (.v (.int .i64 (x.c)))]] 0]) := by
  rw [evL_code ext_program_checker_target code_program_checker_target]
  by_cases h1 : x.code = 2 <;> by_cases h2 : x.a ≥ lps <;> simp only [c_program_checker_target, tgtB, h1, h2, okZ, Go.Ev.runFunc, Go.Ev.exec, Go.Ev.evOpers, Go.Ev.evOper, Go.Ev.item_op, Go.Ev.evOp, Go.Ev.Opnd.ev, Go.Ev.Env.get, Go.Ev.Env.set, Go.Ev.Env.unset, Go.Ev.look, Go.Ev.argVars, Go.Ev.cellsAt, Go.Ev.loadC, Go.Ev.AV.cells, Go.Ev.plains, Go.Ev.AV.plain, Go.Ev.bin_eql, Go.Ev.bin_geq, Go.Ev.resVals, Go.Ev.resVal, Go.Ev.resOf, Go.Ev.kill, Go.Ev.leave, Go.Ev.storeLo, Go.Ev.SObj.lo, Go.Ev.lo_v, Go.Ev.los_nil, Go.Ev.los_cons, Go.Ev.loss_nil, Go.Ev.loss_cons, ↓Go.Ev.obind, ↓reduceIte, List.length_cons, List.length_nil, List.take_succ_cons, List.take_nil, List.drop_succ_cons, List.drop_zero, List.head?_cons, Nat.reduceAdd, Nat.reduceEqDiff, reduceCtorEq, decide_true, decide_false, Bool.and_self, Bool.and_true, Bool.not_true, Bool.not_false, Bool.false_eq_true, and_self, ne_eq, not_false_eq_true, List.cons_ne_nil, Nat.zero_add, eq_self, Bool.and_false]
theorem checker_early_ev : (evL T).call n_program_checker_early [(.agg [(.v (.int .i64 (n))), (.v (.int .i64 (ps))), (.v (.int .i64 (lps))), (.v (.int .i64 (look)))]), (.agg [(.v (.int .i64 (x.code))), (.v (.int .i64 (x.a))), (.v (.int .i64 (x.b))), (.v (.int .i64 (x.c)))])] [.row 4 [[(.v (.int .i64 (n))), (.v (.int .i64 (ps))), (.v (.int .i64 (lps))), (.v (.int .i64 (look)))]] 0, .row 4 [[(.v (.int .i64 (x.code))), (.v (.int .i64 (x.a))), (.v (.int .i64 (x.b))), (.v (.int .i64 (x.c)))]] 0] = some ((.v (.int .i64 (okZ (earlyB look x) 21))), [.row 4 [[(.v (.int .i64 (n))), (.v (.int .i64 (ps))), (.v (.int .i64 (lps))), (.v (.int .i64 (look)))]] 0, .row 4 [[(.v (.int .i64 (x.code))), (.v (.int .i64 (x.a))), (.v (.int .i64 (x.b))), (.v (.int .i64 (x.c)))]] 0]) := by
  rw [evL_code ext_program_checker_early code_program_checker_early]
  by_cases h1 : x.code = 2 <;> by_cases h2 : x.c < look <;> simp only [c_program_checker_early, earlyB, h1, h2, okZ, Go.Ev.runFunc, Go.Ev.exec, Go.Ev.evOpers, Go.Ev.evOper, Go.Ev.item_op, Go.Ev.evOp, Go.Ev.Opnd.ev, Go.Ev.Env.get, Go.Ev.Env.set, Go.Ev.Env.unset, Go.Ev.look, Go.Ev.argVars, Go.Ev.cellsAt, Go.Ev.loadC, Go.Ev.AV.cells, Go.Ev.plains, Go.Ev.AV.plain, Go.Ev.bin_eql, Go.Ev.bin_lss, Go.Ev.resVals, Go.Ev.resVal, Go.Ev.resOf, Go.Ev.kill, Go.Ev.leave, Go.Ev.storeLo, Go.Ev.SObj.lo, Go.Ev.lo_v, Go.Ev.los_nil, Go.Ev.los_cons, Go.Ev.loss_nil, Go.Ev.loss_cons, ↓Go.Ev.obind, ↓reduceIte, List.length_cons, List.length_nil, List.take_succ_cons, List.take_nil, List.drop_succ_cons, List.drop_zero, List.head?_cons, Nat.reduceAdd, Nat.reduceEqDiff, reduceCtorEq, decide_true, decide_false, Bool.and_self, Bool.and_true, Bool.not_true, Bool.not_false, Bool.false_eq_true, and_self, ne_eq, not_false_eq_true, List.cons_ne_nil, Nat.zero_add, eq_self, Bool.and_false]
theorem checker_operands_ev (hn : IntKind.i64.wrap (n - 1) = n - 1) (hp : IntKind.i64.wrap (ps - 1) = ps - 1) :
    (evL T).call n_program_checker_operands [(.agg [(.v (.int .i64 (n))), (.v (.int .i64 (ps))), (.v (.int .i64 (lps))), (.v (.int .i64 (look)))]), (.agg [(.v (.int .i64 (x.code))), (.v (.int .i64 (x.a))), (.v (.int .i64 (x.b))), (.v (.int .i64 (x.c)))])] [.row 4 [[(.v (.int .i64 (n))), (.v (.int .i64 (ps))), (.v (.int .i64 (lps))), (.v (.int .i64 (look)))]] 0, .row 4 [[(.v (.int .i64 (x.code))), (.v (.int .i64 (x.a))), (.v (.int .i64 (x.b))), (.v (.int .i64 (x.c)))]] 0] = some ((.v (.int .i64 (okZ (operB x n ps) 22))), [.row 4 [[(.v (.int .i64 (n))), (.v (.int .i64 (ps))), (.v (.int .i64 (lps))), (.v (.int .i64 (look)))]] 0, .row 4 [[(.v (.int .i64 (x.code))), (.v (.int .i64 (x.a))), (.v (.int .i64 (x.b))), (.v (.int .i64 (x.c)))]] 0]) := by
  rw [evL_code ext_program_checker_operands code_program_checker_operands, ← operP_eq]
  obtain ⟨k, a, b, c⟩ := x
  simp only [operP]
  have e0 : ∀ z : Int, ((0 : Int) == z) = decide (z = 0) := fun z => by rw [Bool.eq_iff_iff, beq_iff_eq, decide_eq_true_eq]; exact eq_comm
  by_cases k1 : k = 1
  · subst k1
    cases h1 : withinB a 1 1099511627776 <;> by_cases h2 : b = 0 <;> by_cases h3 : c = 0 <;> simp only [c_program_checker_operands, program_within_ev, h1, h2, h3, e0, okZ, Go.Ev.runFunc, Go.Ev.exec, Go.Ev.evOpers, Go.Ev.evOper, Go.Ev.item_op, Go.Ev.item_P, Go.Ev.evOp, Go.Ev.evs, Go.Ev.Opnd.ev, Go.Ev.Env.get, Go.Ev.Env.set, Go.Ev.Env.unset, Go.Ev.look, Go.Ev.argVars, Go.Ev.cellsAt, Go.Ev.loadC, Go.Ev.fillP, Go.Ev.AV.cells, Go.Ev.AV.uc, Go.Ev.plains, Go.Ev.AV.plain, Go.Ev.bin_eql, Go.Ev.eqCells, Go.Ev.resVals, Go.Ev.resVal, Go.Ev.resOf, Go.Ev.kill, Go.Ev.leave, Go.Ev.storeLo, Go.Ev.SObj.lo, Go.Ev.lo_v, Go.Ev.los_nil, Go.Ev.los_cons, Go.Ev.loss_nil, Go.Ev.loss_cons, ↓Go.Ev.obind, ↓reduceIte, List.length_cons, List.length_nil, List.getElem?_cons_zero, List.getElem?_cons_succ, List.take_succ_cons, List.take_zero, List.take_nil, List.drop_succ_cons, List.drop_zero, List.drop_nil, List.cons_append, List.nil_append, List.append_nil, List.set_cons_zero, List.set_cons_succ, List.head?_cons, Nat.reduceAdd, Nat.reduceEqDiff, Nat.reduceLeDiff, Int.reduceNeg, reduceCtorEq, decide_true, decide_false, Bool.and_self, Bool.and_true, Bool.not_true, Bool.not_false, Bool.false_eq_true, Bool.true_eq_false, and_self, ne_eq, not_false_eq_true, List.cons_ne_nil, Nat.zero_add, Nat.le_refl, eq_self, beq_self_eq_true, Bool.and_false]
  by_cases k2 : k = 2
  · subst k2
    by_cases h1 : a ≥ 0 <;> cases h2 : withinB b (-1073741824) 1073741824 <;> cases h3 : withinB c 1 1099511627776 <;> simp only [c_program_checker_operands, program_within_ev, h1, h2, h3, okZ, Go.Ev.runFunc, Go.Ev.exec, Go.Ev.evOpers, Go.Ev.evOper, Go.Ev.item_op, Go.Ev.item_P, Go.Ev.evOp, Go.Ev.evs, Go.Ev.Opnd.ev, Go.Ev.Env.get, Go.Ev.Env.set, Go.Ev.Env.unset, Go.Ev.look, Go.Ev.argVars, Go.Ev.cellsAt, Go.Ev.loadC, Go.Ev.fillP, Go.Ev.AV.cells, Go.Ev.AV.uc, Go.Ev.plains, Go.Ev.AV.plain, Go.Ev.bin_eql, Go.Ev.bin_geq, Go.Ev.eqCells, Go.Ev.resVals, Go.Ev.resVal, Go.Ev.resOf, Go.Ev.kill, Go.Ev.leave, Go.Ev.storeLo, Go.Ev.SObj.lo, Go.Ev.lo_v, Go.Ev.los_nil, Go.Ev.los_cons, Go.Ev.loss_nil, Go.Ev.loss_cons, ↓Go.Ev.obind, ↓reduceIte, List.length_cons, List.length_nil, List.getElem?_cons_zero, List.getElem?_cons_succ, List.take_succ_cons, List.take_zero, List.take_nil, List.drop_succ_cons, List.drop_zero, List.drop_nil, List.cons_append, List.nil_append, List.append_nil, List.set_cons_zero, List.set_cons_succ, List.head?_cons, Nat.reduceAdd, Nat.reduceEqDiff, Nat.reduceLeDiff, Int.reduceEq, Int.reduceNeg, reduceCtorEq, decide_true, decide_false, Bool.and_self, Bool.and_true, Bool.not_true, Bool.not_false, Bool.false_eq_true, Bool.true_eq_false, and_self, ne_eq, not_false_eq_true, List.cons_ne_nil, Nat.zero_add, Nat.le_refl, eq_self, beq_self_eq_true, Bool.and_false]
  by_cases k3 : k = 3
  · subst k3
    cases h1 : withinB a 1 1099511627776 <;> cases h2 : withinB b 0 (n - 1) <;> by_cases h3 : c = 0 <;> simp only [c_program_checker_operands, program_within_ev, hn, h1, h2, h3, e0, okZ, Go.Ev.runFunc, Go.Ev.exec, Go.Ev.evOpers, Go.Ev.evOper, Go.Ev.item_op, Go.Ev.item_P, Go.Ev.evOp, Go.Ev.evs, Go.Ev.Opnd.ev, Go.Ev.Env.get, Go.Ev.Env.set, Go.Ev.Env.unset, Go.Ev.look, Go.Ev.argVars, Go.Ev.cellsAt, Go.Ev.loadC, Go.Ev.fillP, Go.Ev.AV.cells, Go.Ev.AV.uc, Go.Ev.plains, Go.Ev.AV.plain, Go.Ev.bin_sub, Go.Ev.bin_eql, Go.Ev.eqCells, Go.Ev.resVals, Go.Ev.resVal, Go.Ev.resOf, Go.Ev.kill, Go.Ev.leave, Go.Ev.storeLo, Go.Ev.SObj.lo, Go.Ev.lo_v, Go.Ev.los_nil, Go.Ev.los_cons, Go.Ev.loss_nil, Go.Ev.loss_cons, ↓Go.Ev.obind, ↓reduceIte, List.length_cons, List.length_nil, List.getElem?_cons_zero, List.getElem?_cons_succ, List.take_succ_cons, List.take_zero, List.take_nil, List.drop_succ_cons, List.drop_zero, List.drop_nil, List.cons_append, List.nil_append, List.append_nil, List.set_cons_zero, List.set_cons_succ, List.head?_cons, Nat.reduceAdd, Nat.reduceEqDiff, Nat.reduceLeDiff, Int.reduceEq, Int.reduceNeg, reduceCtorEq, decide_true, decide_false, Bool.and_self, Bool.and_true, Bool.not_true, Bool.not_false, Bool.false_eq_true, Bool.true_eq_false, and_self, ne_eq, not_false_eq_true, List.cons_ne_nil, Nat.zero_add, Nat.le_refl, eq_self, beq_self_eq_true, Bool.and_false]
  by_cases k5 : k = 5
  · subst k5
    cases h1 : withinB a 0 (ps - 1) <;> cases h2 : withinB b 1 1099511627776 <;> by_cases h3 : c = 0 <;> simp only [c_program_checker_operands, program_within_ev, hp, h1, h2, h3, e0, okZ, Go.Ev.runFunc, Go.Ev.exec, Go.Ev.evOpers, Go.Ev.evOper, Go.Ev.item_op, Go.Ev.item_P, Go.Ev.evOp, Go.Ev.evs, Go.Ev.Opnd.ev, Go.Ev.Env.get, Go.Ev.Env.set, Go.Ev.Env.unset, Go.Ev.look, Go.Ev.argVars, Go.Ev.cellsAt, Go.Ev.loadC, Go.Ev.fillP, Go.Ev.AV.cells, Go.Ev.AV.uc, Go.Ev.plains, Go.Ev.AV.plain, Go.Ev.bin_sub, Go.Ev.bin_eql, Go.Ev.eqCells, Go.Ev.resVals, Go.Ev.resVal, Go.Ev.resOf, Go.Ev.kill, Go.Ev.leave, Go.Ev.storeLo, Go.Ev.SObj.lo, Go.Ev.lo_v, Go.Ev.los_nil, Go.Ev.los_cons, Go.Ev.loss_nil, Go.Ev.loss_cons, ↓Go.Ev.obind, ↓reduceIte, List.length_cons, List.length_nil, List.getElem?_cons_zero, List.getElem?_cons_succ, List.take_succ_cons, List.take_zero, List.take_nil, List.drop_succ_cons, List.drop_zero, List.drop_nil, List.cons_append, List.nil_append, List.append_nil, List.set_cons_zero, List.set_cons_succ, List.head?_cons, Nat.reduceAdd, Nat.reduceEqDiff, Nat.reduceLeDiff, Int.reduceEq, Int.reduceNeg, reduceCtorEq, decide_true, decide_false, Bool.and_self, Bool.and_true, Bool.not_true, Bool.not_false, Bool.false_eq_true, Bool.true_eq_false, and_self, ne_eq, not_false_eq_true, List.cons_ne_nil, Nat.zero_add, Nat.le_refl, eq_self, beq_self_eq_true, Bool.and_false]
  by_cases k6 : k = 6
  · subst k6
    cases h1 : withinB a 0 1 <;> cases h2 : withinB b (-1073741824) 1073741824 <;> by_cases h3 : c = 0 <;> simp only [c_program_checker_operands, program_within_ev, h1, h2, h3, e0, okZ, Go.Ev.runFunc, Go.Ev.exec, Go.Ev.evOpers, Go.Ev.evOper, Go.Ev.item_op, Go.Ev.item_P, Go.Ev.evOp, Go.Ev.evs, Go.Ev.Opnd.ev, Go.Ev.Env.get, Go.Ev.Env.set, Go.Ev.Env.unset, Go.Ev.look, Go.Ev.argVars, Go.Ev.cellsAt, Go.Ev.loadC, Go.Ev.fillP, Go.Ev.AV.cells, Go.Ev.AV.uc, Go.Ev.plains, Go.Ev.AV.plain, Go.Ev.bin_eql, Go.Ev.eqCells, Go.Ev.resVals, Go.Ev.resVal, Go.Ev.resOf, Go.Ev.kill, Go.Ev.leave, Go.Ev.storeLo, Go.Ev.SObj.lo, Go.Ev.lo_v, Go.Ev.los_nil, Go.Ev.los_cons, Go.Ev.loss_nil, Go.Ev.loss_cons, ↓Go.Ev.obind, ↓reduceIte, List.length_cons, List.length_nil, List.getElem?_cons_zero, List.getElem?_cons_succ, List.take_succ_cons, List.take_zero, List.take_nil, List.drop_succ_cons, List.drop_zero, List.drop_nil, List.cons_append, List.nil_append, List.append_nil, List.set_cons_zero, List.set_cons_succ, List.head?_cons, Nat.reduceAdd, Nat.reduceEqDiff, Nat.reduceLeDiff, Int.reduceEq, Int.reduceNeg, reduceCtorEq, decide_true, decide_false, Bool.and_self, Bool.and_true, Bool.not_true, Bool.not_false, Bool.false_eq_true, Bool.true_eq_false, and_self, ne_eq, not_false_eq_true, List.cons_ne_nil, Nat.zero_add, Nat.le_refl, eq_self, beq_self_eq_true, Bool.and_false]
  by_cases k7 : k = 7
  · subst k7
    cases h1 : withinB a 0 1 <;> cases h2 : withinB b (-1073741824) 1073741824 <;> cases h3 : withinB c 0 (n - 1) <;> simp only [c_program_checker_operands, program_within_ev, hn, h1, h2, h3, okZ, Go.Ev.runFunc, Go.Ev.exec, Go.Ev.evOpers, Go.Ev.evOper, Go.Ev.item_op, Go.Ev.item_P, Go.Ev.evOp, Go.Ev.evs, Go.Ev.Opnd.ev, Go.Ev.Env.get, Go.Ev.Env.set, Go.Ev.Env.unset, Go.Ev.look, Go.Ev.argVars, Go.Ev.cellsAt, Go.Ev.loadC, Go.Ev.fillP, Go.Ev.AV.cells, Go.Ev.AV.uc, Go.Ev.plains, Go.Ev.AV.plain, Go.Ev.bin_sub, Go.Ev.bin_eql, Go.Ev.eqCells, Go.Ev.resVals, Go.Ev.resVal, Go.Ev.resOf, Go.Ev.kill, Go.Ev.leave, Go.Ev.storeLo, Go.Ev.SObj.lo, Go.Ev.lo_v, Go.Ev.los_nil, Go.Ev.los_cons, Go.Ev.loss_nil, Go.Ev.loss_cons, ↓Go.Ev.obind, ↓reduceIte, List.length_cons, List.length_nil, List.getElem?_cons_zero, List.getElem?_cons_succ, List.take_succ_cons, List.take_zero, List.take_nil, List.drop_succ_cons, List.drop_zero, List.drop_nil, List.cons_append, List.nil_append, List.append_nil, List.set_cons_zero, List.set_cons_succ, List.head?_cons, Nat.reduceAdd, Nat.reduceEqDiff, Nat.reduceLeDiff, Int.reduceEq, Int.reduceNeg, reduceCtorEq, decide_true, decide_false, Bool.and_self, Bool.and_true, Bool.not_true, Bool.not_false, Bool.false_eq_true, Bool.true_eq_false, and_self, ne_eq, not_false_eq_true, List.cons_ne_nil, Nat.zero_add, Nat.le_refl, eq_self, beq_self_eq_true, Bool.and_false]
  by_cases h1 : a = 0 <;> by_cases h2 : b = 0 <;> by_cases h3 : c = 0 <;> simp only [c_program_checker_operands, k1, k2, k3, k5, k6, k7, h1, h2, h3, e0, okZ, Go.Ev.runFunc, Go.Ev.exec, Go.Ev.evOpers, Go.Ev.evOper, Go.Ev.item_op, Go.Ev.evOp, Go.Ev.Opnd.ev, Go.Ev.Env.get, Go.Ev.Env.set, Go.Ev.look, Go.Ev.argVars, Go.Ev.cellsAt, Go.Ev.loadC, Go.Ev.fillP, Go.Ev.AV.cells, Go.Ev.AV.uc, Go.Ev.plains, Go.Ev.AV.plain, Go.Ev.bin_eql, Go.Ev.eqCells, Go.Ev.resVals, Go.Ev.resVal, Go.Ev.resOf, Go.Ev.kill, Go.Ev.leave, Go.Ev.storeLo, Go.Ev.SObj.lo, Go.Ev.lo_v, Go.Ev.los_nil, Go.Ev.los_cons, Go.Ev.loss_nil, Go.Ev.loss_cons, ↓Go.Ev.obind, ↓reduceIte, List.length_cons, List.length_nil, List.getElem?_cons_zero, List.getElem?_cons_succ, List.take_succ_cons, List.take_zero, List.take_nil, List.drop_succ_cons, List.drop_zero, List.drop_nil, List.cons_append, List.nil_append, List.append_nil, List.set_cons_zero, List.set_cons_succ, List.head?_cons, Nat.reduceAdd, Nat.reduceEqDiff, Nat.reduceLeDiff, Int.reduceNeg, reduceCtorEq, decide_true, decide_false, Bool.and_self, Bool.and_true, Bool.not_true, Bool.not_false, Bool.false_eq_true, and_self, ne_eq, not_false_eq_true, List.cons_ne_nil, Nat.zero_add, Nat.le_refl, eq_self, beq_self_eq_true, Bool.and_false]
end
end Go.Proofs.Ytlcakphdkpdenaa.K

namespace Go.Proofs.Ytlcakphdkpdenaa.K
open Go.Ev
set_option linter.unusedSimpArgs false
set_option linter.unusedVariables false
section
variable (p : List OpI) (c : Bool) (n ps lps look : Int)
def rulesL (n ps lps look : Int) : List (List AV) := [[.fn (.func n_program_checker_code) [(.agg [(.v (.int .i64 (n))), (.v (.int .i64 (ps))), (.v (.int .i64 (lps))), (.v (.int .i64 (look)))])] []], [.fn (.func n_program_checker_operands) [(.agg [(.v (.int .i64 (n))), (.v (.int .i64 (ps))), (.v (.int .i64 (lps))), (.v (.int .i64 (look)))])] []], [.fn (.func n_program_checker_target) [(.agg [(.v (.int .i64 (n))), (.v (.int .i64 (ps))), (.v (.int .i64 (lps))), (.v (.int .i64 (look)))])] []], [.fn (.func n_program_checker_early) [(.agg [(.v (.int .i64 (n))), (.v (.int .i64 (ps))), (.v (.int .i64 (lps))), (.v (.int .i64 (look)))])] []]]
theorem pcheck_inner (k : Nat) (j : Int) (f : OpI → Bool) (err : Int) (herr : err ≠ 0) (hl : p.length ≤ 16) (hr : ∀ x, (evL T).call k [(.agg [(.v (.int .i64 (n))), (.v (.int .i64 (ps))), (.v (.int .i64 (lps))), (.v (.int .i64 (look)))]), (.agg [(.v (.int .i64 (x.code))), (.v (.int .i64 (x.a))), (.v (.int .i64 (x.b))), (.v (.int .i64 (x.c)))])] [.row 4 [[(.v (.int .i64 (n))), (.v (.int .i64 (ps))), (.v (.int .i64 (lps))), (.v (.int .i64 (look)))]] 0, .row 4 [[(.v (.int .i64 (x.code))), (.v (.int .i64 (x.a))), (.v (.int .i64 (x.b))), (.v (.int .i64 (x.c)))]] 0] = some ((.v (.int .i64 (okZ (f x) err))), [.row 4 [[(.v (.int .i64 (n))), (.v (.int .i64 (ps))), (.v (.int .i64 (lps))), (.v (.int .i64 (look)))]] 0, .row 4 [[(.v (.int .i64 (x.code))), (.v (.int .i64 (x.a))), (.v (.int .i64 (x.b))), (.v (.int .i64 (x.c)))]] 0])) :
    ∃ y, itB (exec (evL T) itL none c_program_Check_L2) (Ev.settle [0, 11, 33, 34, 35, 39, 40, 41] true 1) ⟨[(0, (.fsl ((p).map OpI.r) c)), (11, .fn (.func k) [(.agg [(.v (.int .i64 (n))), (.v (.int .i64 (ps))), (.v (.int .i64 (lps))), (.v (.int .i64 (look)))])] []), (33, (.fsl [[.fn (.func n_program_checker_code) [(.agg [(.v (.int .i64 (n))), (.v (.int .i64 (ps))), (.v (.int .i64 (lps))), (.v (.int .i64 (look)))])] []], [.fn (.func n_program_checker_operands) [(.agg [(.v (.int .i64 (n))), (.v (.int .i64 (ps))), (.v (.int .i64 (lps))), (.v (.int .i64 (look)))])] []], [.fn (.func n_program_checker_target) [(.agg [(.v (.int .i64 (n))), (.v (.int .i64 (ps))), (.v (.int .i64 (lps))), (.v (.int .i64 (look)))])] []], [.fn (.func n_program_checker_early) [(.agg [(.v (.int .i64 (n))), (.v (.int .i64 (ps))), (.v (.int .i64 (lps))), (.v (.int .i64 (look)))])] []]] true)), (34, (.v (.int .i64 (4)))), (35, (.v (.int .i64 (j)))), (39, (.fsl ((p).map OpI.r) c)), (40, (.v (.int .i64 (p.length)))), (41, (.v (.int .i64 (0))))], []⟩ [.row 4 [[(.v (.int .i64 (n))), (.v (.int .i64 (ps))), (.v (.int .i64 (lps))), (.v (.int .i64 (look)))]] 0] = some y ∧
      (p.all f = true ∧ (y.1 = .exit 2 ∧ y.2.1.marks = [] ∧ y.2.2 = [.row 4 [[(.v (.int .i64 (n))), (.v (.int .i64 (ps))), (.v (.int .i64 (lps))), (.v (.int .i64 (look)))]] 0] ∧ Ev.look y.2.1.vars 0 = some (.fsl ((p).map OpI.r) c) ∧ Ev.look y.2.1.vars 33 = some (.fsl [[.fn (.func n_program_checker_code) [(.agg [(.v (.int .i64 (n))), (.v (.int .i64 (ps))), (.v (.int .i64 (lps))), (.v (.int .i64 (look)))])] []], [.fn (.func n_program_checker_operands) [(.agg [(.v (.int .i64 (n))), (.v (.int .i64 (ps))), (.v (.int .i64 (lps))), (.v (.int .i64 (look)))])] []], [.fn (.func n_program_checker_target) [(.agg [(.v (.int .i64 (n))), (.v (.int .i64 (ps))), (.v (.int .i64 (lps))), (.v (.int .i64 (look)))])] []], [.fn (.func n_program_checker_early) [(.agg [(.v (.int .i64 (n))), (.v (.int .i64 (ps))), (.v (.int .i64 (lps))), (.v (.int .i64 (look)))])] []]] true) ∧ Ev.look y.2.1.vars 34 = some (.v (.int .i64 (4))) ∧ Ev.look y.2.1.vars 35 = some (.v (.int .i64 (j)))) ∨
      p.all f = false ∧ ∃ x, p.find? (fun x => !f x) = some x ∧ (y.1 = .ret ∧ y.2.1.marks = [] ∧ y.2.2 = [.row 4 [[(.v (.int .i64 (n))), (.v (.int .i64 (ps))), (.v (.int .i64 (lps))), (.v (.int .i64 (look)))]] 0, .row 4 [[(.v (.int .i64 (x.code))), (.v (.int .i64 (x.a))), (.v (.int .i64 (x.b))), (.v (.int .i64 (x.c)))]] 0] ∧ Ev.look y.2.1.vars 8 = some (.v (.int .i64 (err))))) := by
  refine itB_find p (fun i => ⟨[(0, (.fsl ((p).map OpI.r) c)), (11, .fn (.func k) [(.agg [(.v (.int .i64 (n))), (.v (.int .i64 (ps))), (.v (.int .i64 (lps))), (.v (.int .i64 (look)))])] []), (33, (.fsl [[.fn (.func n_program_checker_code) [(.agg [(.v (.int .i64 (n))), (.v (.int .i64 (ps))), (.v (.int .i64 (lps))), (.v (.int .i64 (look)))])] []], [.fn (.func n_program_checker_operands) [(.agg [(.v (.int .i64 (n))), (.v (.int .i64 (ps))), (.v (.int .i64 (lps))), (.v (.int .i64 (look)))])] []], [.fn (.func n_program_checker_target) [(.agg [(.v (.int .i64 (n))), (.v (.int .i64 (ps))), (.v (.int .i64 (lps))), (.v (.int .i64 (look)))])] []], [.fn (.func n_program_checker_early) [(.agg [(.v (.int .i64 (n))), (.v (.int .i64 (ps))), (.v (.int .i64 (lps))), (.v (.int .i64 (look)))])] []]] true)), (34, (.v (.int .i64 (4)))), (35, (.v (.int .i64 (j)))), (39, (.fsl ((p).map OpI.r) c)), (40, (.v (.int .i64 (p.length)))), (41, (.v (.int .i64 (i))))], []⟩) [.row 4 [[(.v (.int .i64 (n))), (.v (.int .i64 (ps))), (.v (.int .i64 (lps))), (.v (.int .i64 (look)))]] 0] f _ (fun x y => _) ?_ ?_ ?_
  · intro i x hi hx hp
    have hi' : (i : Int) < (p.length : Int) := by omega
    have hw : IntKind.i64.wrap ((i : Int) + 1) = ((i + 1 : Nat) : Int) := by rw [w64_small (by omega) (by omega)]; simp
    have h1 := hr x
    rw [hp] at h1
    simp only [okZ, if_true] at h1
    simp only [c_program_Check_L2, Int.natCast_nonneg, Int.toNat_natCast, List.getElem?_map, Option.map_some, OpI.r, hx, hi', hw, h1, prog_lo, Go.Ev.exec, Go.Ev.evOpers, Go.Ev.evOper, Go.Ev.item_op, Go.Ev.item_v, Go.Ev.evOp, Go.Ev.evs, Go.Ev.Opnd.ev, Go.Ev.Env.get, Go.Ev.Env.set, Go.Ev.look, Go.Ev.cellsAt, Go.Ev.loadC, Go.Ev.AV.cells, Go.Ev.plains, Go.Ev.AV.plain, Go.Ev.bin_add, Go.Ev.bin_neq, Go.Ev.bin_lss, Go.Ev.settle, Go.Ev.keep, Go.Ev.varsLo, Go.Ev.marksLo, Go.Ev.storeLo, Go.Ev.SObj.lo, Go.Ev.lo_v, Go.Ev.lo_agg, Go.Ev.lo_fsl, Go.Ev.lo_fn, Go.Ev.los_nil, Go.Ev.los_cons, Go.Ev.loss_nil, Go.Ev.loss_cons, ↓Go.Ev.obind, Go.Ev.it1, ↓reduceIte, List.length_cons, List.length_nil, List.getElem?_cons_zero, List.getElem?_cons_succ, List.take_succ_cons, List.take_zero, List.take_nil, List.drop_succ_cons, List.drop_zero, List.drop_nil, List.cons_append, List.nil_append, List.append_nil, List.set_cons_zero, List.set_cons_succ, Nat.reduceAdd, Nat.reduceEqDiff, reduceCtorEq, decide_true, decide_false, Bool.and_self, Bool.false_eq_true, and_self, ne_eq, not_false_eq_true, not_true_eq_false, List.cons_ne_nil, Nat.zero_add, Nat.le_refl, eq_self]
  · intro i x hi hx hp
    have hi' : (i : Int) < (p.length : Int) := by omega
    have h1 := hr x
    rw [hp] at h1
    simp only [okZ, Bool.false_eq_true, if_false] at h1
    simp only [c_program_Check_L2, Int.natCast_nonneg, Int.toNat_natCast, List.getElem?_map, Option.map_some, OpI.r, hx, hi', h1, herr, Go.Ev.exec, Go.Ev.evOpers, Go.Ev.evOper, Go.Ev.item_op, Go.Ev.item_v, Go.Ev.evOp, Go.Ev.evs, Go.Ev.Opnd.ev, Go.Ev.Env.get, Go.Ev.Env.set, Go.Ev.look, Go.Ev.cellsAt, Go.Ev.loadC, Go.Ev.AV.cells, Go.Ev.plains, Go.Ev.AV.plain, Go.Ev.bin_neq, Go.Ev.bin_lss, ↓Go.Ev.obind, Go.Ev.it1, ↓reduceIte, List.length_cons, List.length_nil, List.getElem?_cons_zero, List.getElem?_cons_succ, List.take_succ_cons, List.take_zero, List.take_nil, List.drop_succ_cons, List.drop_zero, List.drop_nil, List.cons_append, List.nil_append, List.append_nil, List.set_cons_zero, List.set_cons_succ, Nat.reduceAdd, Nat.reduceEqDiff, reduceCtorEq, decide_true, Bool.and_self, and_self, ne_eq, not_false_eq_true, List.cons_ne_nil, Nat.zero_add, Nat.le_refl, eq_self]
    exact ⟨_, rfl, rfl, rfl, rfl, rfl⟩
  · simp only [c_program_Check_L2, Int.lt_irrefl, Go.Ev.exec, Go.Ev.evOpers, Go.Ev.evOper, Go.Ev.item_op, Go.Ev.evOp, Go.Ev.Opnd.ev, Go.Ev.Env.get, Go.Ev.Env.set, Go.Ev.look, Go.Ev.bin_lss, ↓Go.Ev.obind, Go.Ev.it1, ↓reduceIte, Nat.reduceEqDiff, reduceCtorEq, decide_false, Bool.false_eq_true, eq_self]
    exact ⟨_, rfl, rfl, rfl, rfl, rfl, rfl, rfl, rfl⟩
theorem pcheck_step (hl : p.length ≤ 16) (j : Nat) (k : Nat) (f : OpI → Bool) (err : Int) (herr : err ≠ 0) (hj : (rulesL n ps lps look)[j]? = some [.fn (.func k) [(.agg [(.v (.int .i64 (n))), (.v (.int .i64 (ps))), (.v (.int .i64 (lps))), (.v (.int .i64 (look)))])] []]) (hr : ∀ x, (evL T).call k [(.agg [(.v (.int .i64 (n))), (.v (.int .i64 (ps))), (.v (.int .i64 (lps))), (.v (.int .i64 (look)))]), (.agg [(.v (.int .i64 (x.code))), (.v (.int .i64 (x.a))), (.v (.int .i64 (x.b))), (.v (.int .i64 (x.c)))])] [.row 4 [[(.v (.int .i64 (n))), (.v (.int .i64 (ps))), (.v (.int .i64 (lps))), (.v (.int .i64 (look)))]] 0, .row 4 [[(.v (.int .i64 (x.code))), (.v (.int .i64 (x.a))), (.v (.int .i64 (x.b))), (.v (.int .i64 (x.c)))]] 0] = some ((.v (.int .i64 (okZ (f x) err))), [.row 4 [[(.v (.int .i64 (n))), (.v (.int .i64 (ps))), (.v (.int .i64 (lps))), (.v (.int .i64 (look)))]] 0, .row 4 [[(.v (.int .i64 (x.code))), (.v (.int .i64 (x.a))), (.v (.int .i64 (x.b))), (.v (.int .i64 (x.c)))]] 0])) :
    (p.all f = true ∧ it1 (exec (evL T) itL none c_program_Check_L1) (Ev.settle [0, 33, 34, 35] true 1) ⟨[(0, (.fsl ((p).map OpI.r) c)), (33, (.fsl [[.fn (.func n_program_checker_code) [(.agg [(.v (.int .i64 (n))), (.v (.int .i64 (ps))), (.v (.int .i64 (lps))), (.v (.int .i64 (look)))])] []], [.fn (.func n_program_checker_operands) [(.agg [(.v (.int .i64 (n))), (.v (.int .i64 (ps))), (.v (.int .i64 (lps))), (.v (.int .i64 (look)))])] []], [.fn (.func n_program_checker_target) [(.agg [(.v (.int .i64 (n))), (.v (.int .i64 (ps))), (.v (.int .i64 (lps))), (.v (.int .i64 (look)))])] []], [.fn (.func n_program_checker_early) [(.agg [(.v (.int .i64 (n))), (.v (.int .i64 (ps))), (.v (.int .i64 (lps))), (.v (.int .i64 (look)))])] []]] true)), (34, (.v (.int .i64 (4)))), (35, (.v (.int .i64 ((j : Int)))))], []⟩ [.row 4 [[(.v (.int .i64 (n))), (.v (.int .i64 (ps))), (.v (.int .i64 (lps))), (.v (.int .i64 (look)))]] 0] = some (.inl (⟨[(0, (.fsl ((p).map OpI.r) c)), (33, (.fsl [[.fn (.func n_program_checker_code) [(.agg [(.v (.int .i64 (n))), (.v (.int .i64 (ps))), (.v (.int .i64 (lps))), (.v (.int .i64 (look)))])] []], [.fn (.func n_program_checker_operands) [(.agg [(.v (.int .i64 (n))), (.v (.int .i64 (ps))), (.v (.int .i64 (lps))), (.v (.int .i64 (look)))])] []], [.fn (.func n_program_checker_target) [(.agg [(.v (.int .i64 (n))), (.v (.int .i64 (ps))), (.v (.int .i64 (lps))), (.v (.int .i64 (look)))])] []], [.fn (.func n_program_checker_early) [(.agg [(.v (.int .i64 (n))), (.v (.int .i64 (ps))), (.v (.int .i64 (lps))), (.v (.int .i64 (look)))])] []]] true)), (34, (.v (.int .i64 (4)))), (35, (.v (.int .i64 (((j + 1 : Nat) : Int)))))], []⟩, [.row 4 [[(.v (.int .i64 (n))), (.v (.int .i64 (ps))), (.v (.int .i64 (lps))), (.v (.int .i64 (look)))]] 0]))) ∨
    (p.all f = false ∧ ∃ y, it1 (exec (evL T) itL none c_program_Check_L1) (Ev.settle [0, 33, 34, 35] true 1) ⟨[(0, (.fsl ((p).map OpI.r) c)), (33, (.fsl [[.fn (.func n_program_checker_code) [(.agg [(.v (.int .i64 (n))), (.v (.int .i64 (ps))), (.v (.int .i64 (lps))), (.v (.int .i64 (look)))])] []], [.fn (.func n_program_checker_operands) [(.agg [(.v (.int .i64 (n))), (.v (.int .i64 (ps))), (.v (.int .i64 (lps))), (.v (.int .i64 (look)))])] []], [.fn (.func n_program_checker_target) [(.agg [(.v (.int .i64 (n))), (.v (.int .i64 (ps))), (.v (.int .i64 (lps))), (.v (.int .i64 (look)))])] []], [.fn (.func n_program_checker_early) [(.agg [(.v (.int .i64 (n))), (.v (.int .i64 (ps))), (.v (.int .i64 (lps))), (.v (.int .i64 (look)))])] []]] true)), (34, (.v (.int .i64 (4)))), (35, (.v (.int .i64 ((j : Int)))))], []⟩ [.row 4 [[(.v (.int .i64 (n))), (.v (.int .i64 (ps))), (.v (.int .i64 (lps))), (.v (.int .i64 (look)))]] 0] = some (.inr y) ∧ y.1 = .ret ∧ y.2.1.marks = [] ∧ (∃ x : OpI, y.2.2 = [.row 4 [[(.v (.int .i64 (n))), (.v (.int .i64 (ps))), (.v (.int .i64 (lps))), (.v (.int .i64 (look)))]] 0, .row 4 [[(.v (.int .i64 (x.code))), (.v (.int .i64 (x.a))), (.v (.int .i64 (x.b))), (.v (.int .i64 (x.c)))]] 0]) ∧ Ev.look y.2.1.vars 8 = some (.v (.int .i64 (err)))) := by
  obtain ⟨⟨y, e, σ⟩, k1, k2⟩ := pcheck_inner p c n ps lps look k j f err herr hl hr
  have hj4 : j < 4 := (List.getElem?_eq_some_iff.1 hj).1
  have hi' : (j : Int) < 4 := by omega
  have hw : IntKind.i64.wrap ((j : Int) + 1) = ((j + 1 : Nat) : Int) := by rw [w64_small (by omega) (by omega)]; simp
  simp only [rulesL] at hj
  simp only at k2
  rcases k2 with ⟨q1, rfl, q2, rfl, q3, q4, q5, q6⟩ | ⟨q1, x, _, rfl, q2, rfl, q3⟩
  · refine .inl ⟨q1, ?_⟩
    simp only [c_program_Check_L1, Int.natCast_nonneg, Int.toNat_natCast, hi', hw, hj, k1, q2, q3, q4, q5, q6, prog_lo, Go.Ev.exec, Go.Ev.evOpers, Go.Ev.evOper, Go.Ev.item_op, Go.Ev.evOp, Go.Ev.Opnd.ev, Go.Ev.Env.get, Go.Ev.Env.set, Go.Ev.look, Go.Ev.cellsAt, Go.Ev.loadC, Go.Ev.bin_add, Go.Ev.bin_lss, Go.Ev.settle, Go.Ev.keep, Go.Ev.varsLo, Go.Ev.marksLo, Go.Ev.storeLo, Go.Ev.SObj.lo, Go.Ev.lo_v, Go.Ev.lo_agg, Go.Ev.lo_fsl, Go.Ev.lo_fn, Go.Ev.los_nil, Go.Ev.los_cons, Go.Ev.loss_nil, Go.Ev.loss_cons, List.length_map, ↓Go.Ev.obind, ↓Go.Ev.itL_itB, Go.Ev.it1, ↓reduceIte, List.length_cons, List.length_nil, List.take_succ_cons, List.take_nil, List.head?_cons, Nat.reduceEqDiff, reduceCtorEq, decide_true, Bool.and_self, Bool.false_eq_true, and_self, Nat.zero_add, eq_self]
  · refine .inr ⟨q1, ?_⟩
    simp only [c_program_Check_L1, Int.natCast_nonneg, Int.toNat_natCast, hi', hj, k1, prog_lo, Go.Ev.exec, Go.Ev.evOpers, Go.Ev.evOper, Go.Ev.item_op, Go.Ev.evOp, Go.Ev.Opnd.ev, Go.Ev.Env.get, Go.Ev.Env.set, Go.Ev.look, Go.Ev.cellsAt, Go.Ev.loadC, Go.Ev.bin_lss, Go.Ev.settle, Go.Ev.keep, Go.Ev.varsLo, Go.Ev.marksLo, Go.Ev.storeLo, Go.Ev.SObj.lo, Go.Ev.lo_v, Go.Ev.lo_agg, Go.Ev.lo_fsl, Go.Ev.lo_fn, Go.Ev.los_nil, Go.Ev.los_cons, Go.Ev.loss_nil, Go.Ev.loss_cons, List.length_map, ↓Go.Ev.obind, ↓Go.Ev.itL_itB, Go.Ev.it1, ↓reduceIte, List.length_cons, List.length_nil, List.take_succ_cons, List.take_nil, List.head?_cons, Nat.reduceEqDiff, reduceCtorEq, decide_true, Bool.and_self, Bool.false_eq_true, and_self, Nat.zero_add, eq_self]
    exact ⟨_, rfl, rfl, q2, ⟨x, rfl⟩, q3⟩
def restZ : Int := if p.all codeB = false then 22 else if p.all (fun x => operB x n ps) = false then 22 else if p.all (tgtB lps) = false then 23 else if p.all (earlyB look) = false then 21 else 0
theorem pcheck_outer (hl : p.length ≤ 16) (hn : IntKind.i64.wrap (n - 1) = n - 1) (hp : IntKind.i64.wrap (ps - 1) = ps - 1) :
    ∃ y, itB (exec (evL T) itL none c_program_Check_L1) (Ev.settle [0, 33, 34, 35] true 1) ⟨[(0, (.fsl ((p).map OpI.r) c)), (33, (.fsl [[.fn (.func n_program_checker_code) [(.agg [(.v (.int .i64 (n))), (.v (.int .i64 (ps))), (.v (.int .i64 (lps))), (.v (.int .i64 (look)))])] []], [.fn (.func n_program_checker_operands) [(.agg [(.v (.int .i64 (n))), (.v (.int .i64 (ps))), (.v (.int .i64 (lps))), (.v (.int .i64 (look)))])] []], [.fn (.func n_program_checker_target) [(.agg [(.v (.int .i64 (n))), (.v (.int .i64 (ps))), (.v (.int .i64 (lps))), (.v (.int .i64 (look)))])] []], [.fn (.func n_program_checker_early) [(.agg [(.v (.int .i64 (n))), (.v (.int .i64 (ps))), (.v (.int .i64 (lps))), (.v (.int .i64 (look)))])] []]] true)), (34, (.v (.int .i64 (4)))), (35, (.v (.int .i64 (0))))], []⟩ [.row 4 [[(.v (.int .i64 (n))), (.v (.int .i64 (ps))), (.v (.int .i64 (lps))), (.v (.int .i64 (look)))]] 0] = some y ∧
      (restZ p n ps lps look = 0 ∧ (y.1 = .exit 0 ∧ y.2.1.marks = [] ∧ y.2.2 = [.row 4 [[(.v (.int .i64 (n))), (.v (.int .i64 (ps))), (.v (.int .i64 (lps))), (.v (.int .i64 (look)))]] 0]) ∨ (y.1 = .ret ∧ y.2.1.marks = [] ∧ (∃ x : OpI, y.2.2 = [.row 4 [[(.v (.int .i64 (n))), (.v (.int .i64 (ps))), (.v (.int .i64 (lps))), (.v (.int .i64 (look)))]] 0, .row 4 [[(.v (.int .i64 (x.code))), (.v (.int .i64 (x.a))), (.v (.int .i64 (x.b))), (.v (.int .i64 (x.c)))]] 0]) ∧ Ev.look y.2.1.vars 8 = some (.v (.int .i64 (restZ p n ps lps look))))) := by
  have s0 := pcheck_step p c n ps lps look hl 0 n_program_checker_code codeB 22 (by decide) rfl (checker_code_ev n ps lps look)
  have s1 := pcheck_step p c n ps lps look hl 1 n_program_checker_operands (fun x => operB x n ps) 22 (by decide) rfl (fun x => checker_operands_ev n ps lps look x hn hp)
  have s2 := pcheck_step p c n ps lps look hl 2 n_program_checker_target (tgtB lps) 23 (by decide) rfl (checker_target_ev n ps lps look)
  have s3 := pcheck_step p c n ps lps look hl 3 n_program_checker_early (earlyB look) 21 (by decide) rfl (checker_early_ev n ps lps look)
  have last : ∃ y, it1 (exec (evL T) itL none c_program_Check_L1) (Ev.settle [0, 33, 34, 35] true 1) ⟨[(0, (.fsl ((p).map OpI.r) c)), (33, (.fsl [[.fn (.func n_program_checker_code) [(.agg [(.v (.int .i64 (n))), (.v (.int .i64 (ps))), (.v (.int .i64 (lps))), (.v (.int .i64 (look)))])] []], [.fn (.func n_program_checker_operands) [(.agg [(.v (.int .i64 (n))), (.v (.int .i64 (ps))), (.v (.int .i64 (lps))), (.v (.int .i64 (look)))])] []], [.fn (.func n_program_checker_target) [(.agg [(.v (.int .i64 (n))), (.v (.int .i64 (ps))), (.v (.int .i64 (lps))), (.v (.int .i64 (look)))])] []], [.fn (.func n_program_checker_early) [(.agg [(.v (.int .i64 (n))), (.v (.int .i64 (ps))), (.v (.int .i64 (lps))), (.v (.int .i64 (look)))])] []]] true)), (34, (.v (.int .i64 (4)))), (35, (.v (.int .i64 (4))))], []⟩ [.row 4 [[(.v (.int .i64 (n))), (.v (.int .i64 (ps))), (.v (.int .i64 (lps))), (.v (.int .i64 (look)))]] 0] = some (.inr y) ∧ y.1 = .exit 0 ∧ y.2.1.marks = [] ∧ y.2.2 = [.row 4 [[(.v (.int .i64 (n))), (.v (.int .i64 (ps))), (.v (.int .i64 (lps))), (.v (.int .i64 (look)))]] 0] := by
    simp only [c_program_Check_L1, Int.lt_irrefl, Go.Ev.exec, Go.Ev.evOpers, Go.Ev.evOper, Go.Ev.item_op, Go.Ev.evOp, Go.Ev.Opnd.ev, Go.Ev.Env.get, Go.Ev.Env.set, Go.Ev.look, Go.Ev.bin_lss, ↓Go.Ev.obind, Go.Ev.it1, ↓reduceIte, Nat.reduceEqDiff, reduceCtorEq, decide_false, Bool.false_eq_true, eq_self]
    exact ⟨_, rfl, rfl, rfl, rfl⟩
  unfold restZ
  rcases s0 with ⟨a0, b0⟩ | ⟨a0, y, b0, b1, b2, b3, b4⟩
  · rcases s1 with ⟨a1, c0⟩ | ⟨a1, y, c0, c1, c2, c3, c4⟩
    · rcases s2 with ⟨a2, d0⟩ | ⟨a2, y, d0, d1, d2, d3, d4⟩
      · rcases s3 with ⟨a3, f0⟩ | ⟨a3, y, f0, f1, f2, f3, f4⟩
        · obtain ⟨y, l0, l1, l2, l3⟩ := last
          refine ⟨y, ?_, .inl ⟨by rw [a0, a1, a2, a3]; rfl, l1, l2, l3⟩⟩
          exact itB_step b0 (itB_step c0 (itB_step d0 (itB_step f0 (itB_stop l0))))
        · refine ⟨y, ?_, .inr ⟨f1, f2, f3, by rw [a0, a1, a2, a3]; exact f4⟩⟩
          exact itB_step b0 (itB_step c0 (itB_step d0 (itB_stop f0)))
      · refine ⟨y, ?_, .inr ⟨d1, d2, d3, by rw [a0, a1, a2]; exact d4⟩⟩
        exact itB_step b0 (itB_step c0 (itB_stop d0))
    · refine ⟨y, ?_, .inr ⟨c1, c2, c3, by rw [a0, a1]; exact c4⟩⟩
      exact itB_step b0 (itB_stop c0)
  · refine ⟨y, ?_, .inr ⟨b1, b2, b3, by rw [a0]; exact b4⟩⟩
    exact itB_stop b0
end
theorem program_Check_ev (p : List OpI) (c : Bool) (ps lps look : Int) (hl62 : p.length < 2 ^ 62) (hp : IntKind.i64.wrap (ps - 1) = ps - 1) : callZ (evL T) n_program_Check [(.fsl ((p).map OpI.r) c), (.v (.int .i64 (ps))), (.v (.int .i64 (lps))), (.v (.int .i64 (look)))] = some (.v (.int .i64 (checkZ p ps lps look))) := by
  have h0 := program_within_ev p.length 1 16
  rw [callZ, evL_code ext_program_Check code_program_Check]
  have hz : checkZ p ps lps look = if 1 ≤ p.length ∧ p.length ≤ 16 then restZ p p.length ps lps look else 22 := by
    unfold checkZ restZ shapeB
    by_cases h : 1 ≤ p.length ∧ p.length ≤ 16
    · simp only [h, and_self, decide_true, Bool.true_and, if_true]
    · simp only [h, decide_false, Bool.false_and, if_true, if_false]
  have hw : withinB p.length 1 16 = decide (1 ≤ p.length ∧ p.length ≤ 16) := by
    unfold withinB
    rw [← Bool.decide_and]
    exact decide_eq_decide.2 (by omega)
  rw [hw] at h0
  rw [hz]
  have hrep : List.replicate 4 ([.v .nilFunc] : List AV) = [[.v .nilFunc], [.v .nilFunc], [.v .nilFunc], [.v .nilFunc]] := rfl
  by_cases h : 1 ≤ p.length ∧ p.length ≤ 16
  · have hn : IntKind.i64.wrap ((p.length : Int) - 1) = (p.length : Int) - 1 := w64_small (by omega) (by omega)
    obtain ⟨⟨y, e, σ⟩, k1, k2⟩ := pcheck_outer p c p.length ps lps look h.2 hn hp
    simp only at k2
    simp only [h, and_self, decide_true] at h0
    rcases k2 with ⟨q1, rfl, q2, rfl⟩ | ⟨rfl, q2, ⟨x, rfl⟩, q3⟩
    · simp only [h, and_self, if_true, q1]
      simp only [c_program_Check, hrep, h0, k1, q2, prog_lo, Go.Ev.runFunc, Go.Ev.exec, Go.Ev.evOpers, Go.Ev.evOper, Go.Ev.item_op, Go.Ev.item_P, Go.Ev.evOp, Go.Ev.evs, Go.Ev.Opnd.ev, Go.Ev.Env.get, Go.Ev.Env.set, Go.Ev.look, Go.Ev.argVars, Go.Ev.cellsAt, Go.Ev.loadC, Go.Ev.fillP, Go.Ev.fillR, Go.Ev.AV.cells, Go.Ev.AV.uc, Go.Ev.plains, Go.Ev.AV.plain, Go.Ev.resVals, Go.Ev.resVal, Go.Ev.resOf, Go.Ev.kill, Go.Ev.leave, Go.Ev.settle, Go.Ev.keep, Go.Ev.varsLo, Go.Ev.marksLo, Go.Ev.storeLo, Go.Ev.SObj.lo, Go.Ev.lo_v, Go.Ev.lo_agg, Go.Ev.lo_fsl, Go.Ev.lo_fn, Go.Ev.los_nil, Go.Ev.los_cons, Go.Ev.loss_nil, Go.Ev.loss_cons, Go.Ev.frz_lo, List.length_map, ↓Go.Ev.obind, ↓Go.Ev.itL_itB, ↓reduceIte, List.length_cons, List.length_nil, List.getElem?_cons_zero, List.take_succ_cons, List.take_zero, List.take_nil, List.drop_succ_cons, List.drop_zero, List.drop_nil, List.cons_append, List.nil_append, List.append_nil, List.set_cons_zero, List.set_cons_succ, Nat.reduceAdd, Nat.reduceEqDiff, Nat.reduceMul, Nat.reduceLT, Nat.reduceLeDiff, Nat.reducePow, Int.cast_ofNat_Int, reduceCtorEq, Bool.and_self, Bool.not_true, Bool.false_eq_true, and_self, ne_eq, not_false_eq_true, List.cons_ne_nil, Nat.zero_add, Nat.lt_add_one, Nat.le_refl, eq_self]
    · simp only [h, and_self, if_true]
      simp only [c_program_Check, hrep, h0, k1, q2, q3, prog_lo, Go.Ev.runFunc, Go.Ev.exec, Go.Ev.evOpers, Go.Ev.evOper, Go.Ev.item_op, Go.Ev.item_P, Go.Ev.evOp, Go.Ev.evs, Go.Ev.Opnd.ev, Go.Ev.Env.get, Go.Ev.Env.set, Go.Ev.look, Go.Ev.argVars, Go.Ev.cellsAt, Go.Ev.loadC, Go.Ev.fillP, Go.Ev.fillR, Go.Ev.AV.cells, Go.Ev.AV.uc, Go.Ev.plains, Go.Ev.AV.plain, Go.Ev.resVals, Go.Ev.resVal, Go.Ev.resOf, Go.Ev.kill, Go.Ev.leave, Go.Ev.settle, Go.Ev.keep, Go.Ev.varsLo, Go.Ev.marksLo, Go.Ev.storeLo, Go.Ev.SObj.lo, Go.Ev.lo_v, Go.Ev.lo_agg, Go.Ev.lo_fsl, Go.Ev.lo_fn, Go.Ev.los_nil, Go.Ev.los_cons, Go.Ev.loss_nil, Go.Ev.loss_cons, Go.Ev.frz_lo, List.length_map, ↓Go.Ev.obind, ↓Go.Ev.itL_itB, ↓reduceIte, List.length_cons, List.length_nil, List.getElem?_cons_zero, List.take_succ_cons, List.take_zero, List.take_nil, List.drop_succ_cons, List.drop_zero, List.drop_nil, List.cons_append, List.nil_append, List.append_nil, List.set_cons_zero, List.set_cons_succ, Nat.reduceAdd, Nat.reduceEqDiff, Nat.reduceMul, Nat.reduceLT, Nat.reduceLeDiff, Nat.reducePow, Int.cast_ofNat_Int, reduceCtorEq, Bool.and_self, Bool.not_true, Bool.false_eq_true, and_self, ne_eq, not_false_eq_true, List.cons_ne_nil, Nat.zero_add, Nat.lt_add_one, Nat.le_refl, eq_self]
  · simp only [h, decide_false] at h0
    simp only [h, if_false]
    simp only [c_program_Check, h0, Go.Ev.runFunc, Go.Ev.exec, Go.Ev.evOpers, Go.Ev.evOper, Go.Ev.item_op, Go.Ev.item_P, Go.Ev.evOp, Go.Ev.evs, Go.Ev.Opnd.ev, Go.Ev.Env.get, Go.Ev.Env.set, Go.Ev.look, Go.Ev.argVars, Go.Ev.resVals, Go.Ev.resVal, Go.Ev.resOf, Go.Ev.kill, Go.Ev.leave, Go.Ev.storeLo, Go.Ev.lo_v, Go.Ev.los_nil, Go.Ev.los_cons, Go.Ev.frz_lo, List.length_map, ↓Go.Ev.obind, ↓reduceIte, List.length_cons, List.length_nil, List.take_nil, Nat.reduceAdd, reduceCtorEq, Bool.and_self, Bool.not_false, and_self, Nat.zero_add, eq_self]
end Go.Proofs.Ytlcakphdkpdenaa.K

namespace Go.Proofs.Ytlcakphdkpdenaa.K
open Go.Ev
set_option linter.unusedSimpArgs false
set_option linter.unusedVariables false
set_option maxRecDepth 10000
/-- The first answer that is not 0. -/
def firstE {τ : Type} (g : τ → Int) (l : List τ) : Int := match l.find? (fun x => !decide (g x = 0)) with
  | none => 0
  | some x => g x
theorem firstE_all {τ : Type} {g : τ → Int} {l : List τ} (h : l.all (fun x => decide (g x = 0)) = true) : firstE g l = 0 := by
  have : l.find? (fun x => !decide (g x = 0)) = none := by
    rw [List.find?_eq_none]
    intro x hx
    have := List.all_eq_true.1 h x hx
    simpa using this
  unfold firstE; rw [this]
theorem firstE_some {τ : Type} {g : τ → Int} {l : List τ} {x : τ} (h : l.find? (fun x => !decide (g x = 0)) = some x) : firstE g l = g x := by
  unfold firstE; rw [h]
theorem firstE_zero {τ : Type} {g : τ → Int} {l : List τ} : firstE g l = 0 ↔ ∀ x ∈ l, g x = 0 := by
  constructor
  · intro h x hx
    unfold firstE at h
    split at h
    · rename_i hn
      have := (List.find?_eq_none.1 hn) x hx
      simpa using this
    · rename_i y hy
      have := List.find?_some hy
      simp [h] at this
  · intro h
    exact firstE_all (List.all_eq_true.2 fun x hx => by simp [h x hx])
theorem config_within_ev (n l m : Int) : callZ (evL T) n_config_within [(.v (.int .i64 (n))), (.v (.int .i64 (l))), (.v (.int .i64 (m)))] = some (.v (.bool (withinB n l m))) := by
  rw [callZ, evL_code ext_config_within code_config_within]
  by_cases h1 : n ≥ l <;> simp only [withinB, c_config_within, h1, Go.Ev.runFunc, Go.Ev.exec, Go.Ev.evOpers, Go.Ev.evOper, Go.Ev.item_op, Go.Ev.evOp, Go.Ev.Opnd.ev, Go.Ev.Env.get, Go.Ev.Env.set, Go.Ev.Env.unset, Go.Ev.look, Go.Ev.argVars, Go.Ev.bin_leq, Go.Ev.bin_geq, Go.Ev.resVals, Go.Ev.resVal, Go.Ev.resOf, Go.Ev.kill, Go.Ev.leave, Go.Ev.storeLo, Go.Ev.lo_v, Go.Ev.frz_lo, ↓Go.Ev.obind, ↓reduceIte, List.length_cons, List.length_nil, List.take_nil, Nat.reduceAdd, Nat.reduceEqDiff, reduceCtorEq, decide_true, decide_false, Bool.true_and, Bool.false_eq_true, and_self, Nat.zero_add, eq_self, Bool.false_and]
theorem config_verdict_ev (b : Bool) (e : Int) : callZ (evL T) n_config_verdict [(.v (.bool (b))), (.v (.int .i64 (e)))] = some (.v (.int .i64 (okZ b e))) := by
  rw [callZ, evL_code ext_config_verdict code_config_verdict]
  cases b <;> simp only [okZ, c_config_verdict, Go.Ev.runFunc, Go.Ev.exec, Go.Ev.evOpers, Go.Ev.evOper, Go.Ev.item_op, Go.Ev.evOp, Go.Ev.Opnd.ev, Go.Ev.Env.get, Go.Ev.Env.set, Go.Ev.look, Go.Ev.argVars, Go.Ev.resVals, Go.Ev.resVal, Go.Ev.resOf, Go.Ev.kill, Go.Ev.leave, Go.Ev.storeLo, Go.Ev.lo_v, Go.Ev.frz_lo, ↓Go.Ev.obind, ↓reduceIte, List.length_cons, List.length_nil, List.take_nil, Nat.reduceAdd, Nat.reduceEqDiff, reduceCtorEq, Bool.false_eq_true, and_self, Nat.zero_add, eq_self]
section
variable (k : Nat) (cap : List AV) (hcap : los 0 cap = true)
include hcap
theorem first_prog_ev (l : List (List OpI)) (g : List OpI → Int) (hl : l.length < 2 ^ 62) (hf : ∀ p ∈ l, (evL T).call k ((.fsl ((p).map OpI.r) false) :: cap) [] = some ((.v (.int .i64 (g p))), [])) :
    callZ (evL T) n_config_first_Lapi_Op [(.fsl ((l).map progC) false), .fn (.func k) [] cap] = some (.v (.int .i64 (firstE g l))) := by
  have hL : ∃ y, itB (exec (evL T) itL none c_config_first_Lapi_Op_L1) (Ev.settle [1, 8, 9, 10] true 0) ⟨[(1, .fn (.func k) [] cap), (8, (.fsl ((l).map progC) false)), (9, (.v (.int .i64 (l.length)))), (10, (.v (.int .i64 (0))))], []⟩ [] = some y ∧ (l.all (fun x => decide (g x = 0)) = true ∧ (y.1 = .exit 0 ∧ y.2.1.marks = [] ∧ y.2.2 = []) ∨
      l.all (fun x => decide (g x = 0)) = false ∧ ∃ x, l.find? (fun x => !decide (g x = 0)) = some x ∧ (y.1 = .ret ∧ y.2.1.marks = [] ∧ y.2.2 = [] ∧ Ev.look y.2.1.vars 4 = some (.v (.int .i64 (g x))))) := by
    refine itB_find l (fun i => ⟨[(1, .fn (.func k) [] cap), (8, (.fsl ((l).map progC) false)), (9, (.v (.int .i64 (l.length)))), (10, (.v (.int .i64 (i))))], []⟩) [] (fun x => decide (g x = 0)) _ (fun x y => _) ?_ ?_ ?_
    · intro i x hi hx hp
      have hi' : (i : Int) < (l.length : Int) := by omega
      have hw : IntKind.i64.wrap ((i : Int) + 1) = ((i + 1 : Nat) : Int) := by rw [w64_small (by omega) (by omega)]; simp
      have h1 := hf x (List.mem_of_getElem? hx)
      rw [of_decide_eq_true hp] at h1
      simp only [c_config_first_Lapi_Op_L1, Int.natCast_nonneg, Int.toNat_natCast, List.getElem?_map, Option.map_some, hx, hi', hw, h1, hcap, progs_lo, progC, Go.Ev.exec, Go.Ev.evOpers, Go.Ev.evOper, Go.Ev.item_op, Go.Ev.item_v, Go.Ev.evOp, Go.Ev.evs, Go.Ev.Opnd.ev, Go.Ev.Env.get, Go.Ev.Env.set, Go.Ev.look, Go.Ev.cellsAt, Go.Ev.loadC, Go.Ev.bin_add, Go.Ev.bin_neq, Go.Ev.bin_lss, Go.Ev.settle, Go.Ev.keep, Go.Ev.varsLo, Go.Ev.marksLo, Go.Ev.storeLo, Go.Ev.lo_v, Go.Ev.lo_fsl, Go.Ev.lo_fn, Go.Ev.los_nil, ↓Go.Ev.obind, Go.Ev.it1, ↓reduceIte, List.length_cons, List.length_nil, List.take_nil, List.cons_append, List.nil_append, List.head?_cons, Nat.reduceEqDiff, decide_true, decide_false, Bool.and_self, Bool.false_eq_true, and_self, ne_eq, not_true_eq_false, Nat.zero_add, eq_self]
    · intro i x hi hx hp
      have hi' : (i : Int) < (l.length : Int) := by omega
      have h1 := hf x (List.mem_of_getElem? hx)
      have h2 : ¬ g x = 0 := of_decide_eq_false hp
      simp only [c_config_first_Lapi_Op_L1, Int.natCast_nonneg, Int.toNat_natCast, List.getElem?_map, Option.map_some, hx, hi', h1, h2, progC, Go.Ev.exec, Go.Ev.evOpers, Go.Ev.evOper, Go.Ev.item_op, Go.Ev.item_v, Go.Ev.evOp, Go.Ev.evs, Go.Ev.Opnd.ev, Go.Ev.Env.get, Go.Ev.Env.set, Go.Ev.look, Go.Ev.cellsAt, Go.Ev.loadC, Go.Ev.bin_neq, Go.Ev.bin_lss, ↓Go.Ev.obind, Go.Ev.it1, ↓reduceIte, List.length_cons, List.length_nil, List.cons_append, List.nil_append, List.head?_cons, Nat.reduceEqDiff, decide_true, Bool.false_eq_true, ne_eq, not_false_eq_true, Nat.zero_add, eq_self]
      exact ⟨_, rfl, rfl, rfl, rfl, rfl⟩
    · simp only [c_config_first_Lapi_Op_L1, Int.lt_irrefl, Go.Ev.exec, Go.Ev.evOpers, Go.Ev.evOper, Go.Ev.item_op, Go.Ev.evOp, Go.Ev.Opnd.ev, Go.Ev.Env.get, Go.Ev.Env.set, Go.Ev.look, Go.Ev.bin_lss, ↓Go.Ev.obind, Go.Ev.it1, ↓reduceIte, Nat.reduceEqDiff, decide_false, Bool.false_eq_true, eq_self]
      exact ⟨_, rfl, rfl, rfl, rfl⟩
  obtain ⟨⟨y, e, σ⟩, k1, k2⟩ := hL
  simp only at k2
  rw [callZ, evL_code ext_config_first_Lapi_Op code_config_first_Lapi_Op]
  rcases k2 with ⟨k3, rfl, k4, rfl⟩ | ⟨k3, x, k5, rfl, k4, rfl, k6⟩
  · rw [firstE_all k3]
    simp only [c_config_first_Lapi_Op, k1, k4, hcap, progs_lo, Go.Ev.runFunc, Go.Ev.exec, Go.Ev.evOpers, Go.Ev.evOper, Go.Ev.item_op, Go.Ev.evOp, Go.Ev.Opnd.ev, Go.Ev.Env.get, Go.Ev.Env.set, Go.Ev.look, Go.Ev.argVars, Go.Ev.resVals, Go.Ev.resVal, Go.Ev.resOf, Go.Ev.kill, Go.Ev.leave, Go.Ev.settle, Go.Ev.keep, Go.Ev.varsLo, Go.Ev.marksLo, Go.Ev.storeLo, Go.Ev.lo_v, Go.Ev.lo_fsl, Go.Ev.lo_fn, Go.Ev.los_nil, Go.Ev.frz_lo, List.length_map, ↓Go.Ev.obind, ↓Go.Ev.itL_itB, ↓reduceIte, List.length_cons, List.length_nil, List.take_nil, Nat.reduceAdd, Nat.reduceEqDiff, reduceCtorEq, Bool.and_self, and_self, Nat.zero_add, eq_self]
  · rw [firstE_some k5]
    simp only [c_config_first_Lapi_Op, k1, k4, k6, hcap, progs_lo, Go.Ev.runFunc, Go.Ev.exec, Go.Ev.evOpers, Go.Ev.evOper, Go.Ev.item_op, Go.Ev.evOp, Go.Ev.Opnd.ev, Go.Ev.Env.get, Go.Ev.Env.set, Go.Ev.look, Go.Ev.argVars, Go.Ev.resVals, Go.Ev.resVal, Go.Ev.resOf, Go.Ev.kill, Go.Ev.leave, Go.Ev.settle, Go.Ev.keep, Go.Ev.varsLo, Go.Ev.marksLo, Go.Ev.storeLo, Go.Ev.lo_v, Go.Ev.lo_fsl, Go.Ev.lo_fn, Go.Ev.los_nil, Go.Ev.frz_lo, List.length_map, ↓Go.Ev.obind, ↓Go.Ev.itL_itB, ↓reduceIte, List.length_cons, List.length_nil, List.take_nil, Nat.reduceAdd, Nat.reduceEqDiff, reduceCtorEq, Bool.and_self, and_self, Nat.zero_add, eq_self]
theorem first_starts_ev (l : List (List Start)) (g : List Start → Int) (hl : l.length < 2 ^ 62) (hf : ∀ p ∈ l, (evL T).call k ((.fsl ((p).map Start.r) false) :: cap) [] = some ((.v (.int .i64 (g p))), [])) :
    callZ (evL T) n_config_first_Lapi_Start [(.fsl ((l).map lpC) false), .fn (.func k) [] cap] = some (.v (.int .i64 (firstE g l))) := by
  have hL : ∃ y, itB (exec (evL T) itL none c_config_first_Lapi_Start_L1) (Ev.settle [1, 8, 9, 10] true 0) ⟨[(1, .fn (.func k) [] cap), (8, (.fsl ((l).map lpC) false)), (9, (.v (.int .i64 (l.length)))), (10, (.v (.int .i64 (0))))], []⟩ [] = some y ∧ (l.all (fun x => decide (g x = 0)) = true ∧ (y.1 = .exit 0 ∧ y.2.1.marks = [] ∧ y.2.2 = []) ∨
      l.all (fun x => decide (g x = 0)) = false ∧ ∃ x, l.find? (fun x => !decide (g x = 0)) = some x ∧ (y.1 = .ret ∧ y.2.1.marks = [] ∧ y.2.2 = [] ∧ Ev.look y.2.1.vars 4 = some (.v (.int .i64 (g x))))) := by
    refine itB_find l (fun i => ⟨[(1, .fn (.func k) [] cap), (8, (.fsl ((l).map lpC) false)), (9, (.v (.int .i64 (l.length)))), (10, (.v (.int .i64 (i))))], []⟩) [] (fun x => decide (g x = 0)) _ (fun x y => _) ?_ ?_ ?_
    · intro i x hi hx hp
      have hi' : (i : Int) < (l.length : Int) := by omega
      have hw : IntKind.i64.wrap ((i : Int) + 1) = ((i + 1 : Nat) : Int) := by rw [w64_small (by omega) (by omega)]; simp
      have h1 := hf x (List.mem_of_getElem? hx)
      rw [of_decide_eq_true hp] at h1
      simp only [c_config_first_Lapi_Start_L1, Int.natCast_nonneg, Int.toNat_natCast, List.getElem?_map, Option.map_some, hx, hi', hw, h1, hcap, lps_lo, lpC, Go.Ev.exec, Go.Ev.evOpers, Go.Ev.evOper, Go.Ev.item_op, Go.Ev.item_v, Go.Ev.evOp, Go.Ev.evs, Go.Ev.Opnd.ev, Go.Ev.Env.get, Go.Ev.Env.set, Go.Ev.look, Go.Ev.cellsAt, Go.Ev.loadC, Go.Ev.bin_add, Go.Ev.bin_neq, Go.Ev.bin_lss, Go.Ev.settle, Go.Ev.keep, Go.Ev.varsLo, Go.Ev.marksLo, Go.Ev.storeLo, Go.Ev.lo_v, Go.Ev.lo_fsl, Go.Ev.lo_fn, Go.Ev.los_nil, ↓Go.Ev.obind, Go.Ev.it1, ↓reduceIte, List.length_cons, List.length_nil, List.take_nil, List.cons_append, List.nil_append, List.head?_cons, Nat.reduceEqDiff, decide_true, decide_false, Bool.and_self, Bool.false_eq_true, and_self, ne_eq, not_true_eq_false, Nat.zero_add, eq_self]
    · intro i x hi hx hp
      have hi' : (i : Int) < (l.length : Int) := by omega
      have h1 := hf x (List.mem_of_getElem? hx)
      have h2 : ¬ g x = 0 := of_decide_eq_false hp
      simp only [c_config_first_Lapi_Start_L1, Int.natCast_nonneg, Int.toNat_natCast, List.getElem?_map, Option.map_some, hx, hi', h1, h2, lpC, Go.Ev.exec, Go.Ev.evOpers, Go.Ev.evOper, Go.Ev.item_op, Go.Ev.item_v, Go.Ev.evOp, Go.Ev.evs, Go.Ev.Opnd.ev, Go.Ev.Env.get, Go.Ev.Env.set, Go.Ev.look, Go.Ev.cellsAt, Go.Ev.loadC, Go.Ev.bin_neq, Go.Ev.bin_lss, ↓Go.Ev.obind, Go.Ev.it1, ↓reduceIte, List.length_cons, List.length_nil, List.cons_append, List.nil_append, List.head?_cons, Nat.reduceEqDiff, decide_true, Bool.false_eq_true, ne_eq, not_false_eq_true, Nat.zero_add, eq_self]
      exact ⟨_, rfl, rfl, rfl, rfl, rfl⟩
    · simp only [c_config_first_Lapi_Start_L1, Int.lt_irrefl, Go.Ev.exec, Go.Ev.evOpers, Go.Ev.evOper, Go.Ev.item_op, Go.Ev.evOp, Go.Ev.Opnd.ev, Go.Ev.Env.get, Go.Ev.Env.set, Go.Ev.look, Go.Ev.bin_lss, ↓Go.Ev.obind, Go.Ev.it1, ↓reduceIte, Nat.reduceEqDiff, decide_false, Bool.false_eq_true, eq_self]
      exact ⟨_, rfl, rfl, rfl, rfl⟩
  obtain ⟨⟨y, e, σ⟩, k1, k2⟩ := hL
  simp only at k2
  rw [callZ, evL_code ext_config_first_Lapi_Start code_config_first_Lapi_Start]
  rcases k2 with ⟨k3, rfl, k4, rfl⟩ | ⟨k3, x, k5, rfl, k4, rfl, k6⟩
  · rw [firstE_all k3]
    simp only [c_config_first_Lapi_Start, k1, k4, hcap, lps_lo, Go.Ev.runFunc, Go.Ev.exec, Go.Ev.evOpers, Go.Ev.evOper, Go.Ev.item_op, Go.Ev.evOp, Go.Ev.Opnd.ev, Go.Ev.Env.get, Go.Ev.Env.set, Go.Ev.look, Go.Ev.argVars, Go.Ev.resVals, Go.Ev.resVal, Go.Ev.resOf, Go.Ev.kill, Go.Ev.leave, Go.Ev.settle, Go.Ev.keep, Go.Ev.varsLo, Go.Ev.marksLo, Go.Ev.storeLo, Go.Ev.lo_v, Go.Ev.lo_fsl, Go.Ev.lo_fn, Go.Ev.los_nil, Go.Ev.frz_lo, List.length_map, ↓Go.Ev.obind, ↓Go.Ev.itL_itB, ↓reduceIte, List.length_cons, List.length_nil, List.take_nil, Nat.reduceAdd, Nat.reduceEqDiff, reduceCtorEq, Bool.and_self, and_self, Nat.zero_add, eq_self]
  · rw [firstE_some k5]
    simp only [c_config_first_Lapi_Start, k1, k4, k6, hcap, lps_lo, Go.Ev.runFunc, Go.Ev.exec, Go.Ev.evOpers, Go.Ev.evOper, Go.Ev.item_op, Go.Ev.evOp, Go.Ev.Opnd.ev, Go.Ev.Env.get, Go.Ev.Env.set, Go.Ev.look, Go.Ev.argVars, Go.Ev.resVals, Go.Ev.resVal, Go.Ev.resOf, Go.Ev.kill, Go.Ev.leave, Go.Ev.settle, Go.Ev.keep, Go.Ev.varsLo, Go.Ev.marksLo, Go.Ev.storeLo, Go.Ev.lo_v, Go.Ev.lo_fsl, Go.Ev.lo_fn, Go.Ev.los_nil, Go.Ev.frz_lo, List.length_map, ↓Go.Ev.obind, ↓Go.Ev.itL_itB, ↓reduceIte, List.length_cons, List.length_nil, List.take_nil, Nat.reduceAdd, Nat.reduceEqDiff, reduceCtorEq, Bool.and_self, and_self, Nat.zero_add, eq_self]
theorem first_start_ev (l : List Start) (g : Start → Int) (hl : l.length < 2 ^ 62) (hf : ∀ x ∈ l, (evL T).call k (.agg [(.v (.int .i64 (x.prog))), (.v (.int .i64 (x.time)))] :: cap) [.row 2 [[(.v (.int .i64 (x.prog))), (.v (.int .i64 (x.time)))]] 0] = some ((.v (.int .i64 (g x))), [.row 2 [[(.v (.int .i64 (x.prog))), (.v (.int .i64 (x.time)))]] 0])) :
    callZ (evL T) n_config_first_api_Start [(.fsl ((l).map Start.r) false), .fn (.func k) [] cap] = some (.v (.int .i64 (firstE g l))) := by
  have hL : ∃ y, itB (exec (evL T) itL none c_config_first_api_Start_L1) (Ev.settle [1, 8, 9, 10] true 0) ⟨[(1, .fn (.func k) [] cap), (8, (.fsl ((l).map Start.r) false)), (9, (.v (.int .i64 (l.length)))), (10, (.v (.int .i64 (0))))], []⟩ [] = some y ∧ (l.all (fun x => decide (g x = 0)) = true ∧ (y.1 = .exit 0 ∧ y.2.1.marks = [] ∧ y.2.2 = []) ∨
      l.all (fun x => decide (g x = 0)) = false ∧ ∃ x, l.find? (fun x => !decide (g x = 0)) = some x ∧ (y.1 = .ret ∧ y.2.1.marks = [] ∧ y.2.2 = [.row 2 [[(.v (.int .i64 (x.prog))), (.v (.int .i64 (x.time)))]] 0] ∧ Ev.look y.2.1.vars 4 = some (.v (.int .i64 (g x))))) := by
    refine itB_find l (fun i => ⟨[(1, .fn (.func k) [] cap), (8, (.fsl ((l).map Start.r) false)), (9, (.v (.int .i64 (l.length)))), (10, (.v (.int .i64 (i))))], []⟩) [] (fun x => decide (g x = 0)) _ (fun x y => _) ?_ ?_ ?_
    · intro i x hi hx hp
      have hi' : (i : Int) < (l.length : Int) := by omega
      have hw : IntKind.i64.wrap ((i : Int) + 1) = ((i + 1 : Nat) : Int) := by rw [w64_small (by omega) (by omega)]; simp
      have h1 := hf x (List.mem_of_getElem? hx)
      rw [of_decide_eq_true hp] at h1
      simp only [c_config_first_api_Start_L1, Int.natCast_nonneg, Int.toNat_natCast, List.getElem?_map, Option.map_some, hx, hi', hw, h1, hcap, starts_lo, Start.r, Go.Ev.exec, Go.Ev.evOpers, Go.Ev.evOper, Go.Ev.item_op, Go.Ev.item_v, Go.Ev.evOp, Go.Ev.evs, Go.Ev.Opnd.ev, Go.Ev.Env.get, Go.Ev.Env.set, Go.Ev.look, Go.Ev.cellsAt, Go.Ev.loadC, Go.Ev.AV.cells, Go.Ev.plains, Go.Ev.AV.plain, Go.Ev.bin_add, Go.Ev.bin_neq, Go.Ev.bin_lss, Go.Ev.settle, Go.Ev.keep, Go.Ev.varsLo, Go.Ev.marksLo, Go.Ev.storeLo, Go.Ev.lo_v, Go.Ev.lo_fsl, Go.Ev.lo_fn, Go.Ev.los_nil, ↓Go.Ev.obind, Go.Ev.it1, ↓reduceIte, List.length_cons, List.length_nil, List.getElem?_cons_zero, List.take_succ_cons, List.take_zero, List.take_nil, List.drop_succ_cons, List.drop_zero, List.drop_nil, List.cons_append, List.nil_append, List.append_nil, List.set_cons_zero, Nat.reduceAdd, Nat.reduceEqDiff, decide_true, decide_false, Bool.and_self, Bool.false_eq_true, and_self, ne_eq, not_false_eq_true, not_true_eq_false, List.cons_ne_nil, Nat.zero_add, Nat.le_refl, eq_self]
    · intro i x hi hx hp
      have hi' : (i : Int) < (l.length : Int) := by omega
      have h1 := hf x (List.mem_of_getElem? hx)
      have h2 : ¬ g x = 0 := of_decide_eq_false hp
      simp only [c_config_first_api_Start_L1, Int.natCast_nonneg, Int.toNat_natCast, List.getElem?_map, Option.map_some, hx, hi', h1, h2, Start.r, Go.Ev.exec, Go.Ev.evOpers, Go.Ev.evOper, Go.Ev.item_op, Go.Ev.item_v, Go.Ev.evOp, Go.Ev.evs, Go.Ev.Opnd.ev, Go.Ev.Env.get, Go.Ev.Env.set, Go.Ev.look, Go.Ev.cellsAt, Go.Ev.loadC, Go.Ev.AV.cells, Go.Ev.plains, Go.Ev.AV.plain, Go.Ev.bin_neq, Go.Ev.bin_lss, ↓Go.Ev.obind, Go.Ev.it1, ↓reduceIte, List.length_cons, List.length_nil, List.getElem?_cons_zero, List.take_succ_cons, List.take_zero, List.take_nil, List.drop_succ_cons, List.drop_zero, List.drop_nil, List.cons_append, List.nil_append, List.append_nil, List.set_cons_zero, Nat.reduceAdd, Nat.reduceEqDiff, decide_true, Bool.and_self, and_self, ne_eq, not_false_eq_true, List.cons_ne_nil, Nat.zero_add, Nat.le_refl, eq_self]
      exact ⟨_, rfl, rfl, rfl, rfl, rfl⟩
    · simp only [c_config_first_api_Start_L1, Int.lt_irrefl, Go.Ev.exec, Go.Ev.evOpers, Go.Ev.evOper, Go.Ev.item_op, Go.Ev.evOp, Go.Ev.Opnd.ev, Go.Ev.Env.get, Go.Ev.Env.set, Go.Ev.look, Go.Ev.bin_lss, ↓Go.Ev.obind, Go.Ev.it1, ↓reduceIte, Nat.reduceEqDiff, decide_false, Bool.false_eq_true, eq_self]
      exact ⟨_, rfl, rfl, rfl, rfl⟩
  obtain ⟨⟨y, e, σ⟩, k1, k2⟩ := hL
  simp only at k2
  rw [callZ, evL_code ext_config_first_api_Start code_config_first_api_Start]
  rcases k2 with ⟨k3, rfl, k4, rfl⟩ | ⟨k3, x, k5, rfl, k4, rfl, k6⟩
  · rw [firstE_all k3]
    simp only [c_config_first_api_Start, k1, k4, hcap, starts_lo, Go.Ev.runFunc, Go.Ev.exec, Go.Ev.evOpers, Go.Ev.evOper, Go.Ev.item_op, Go.Ev.evOp, Go.Ev.Opnd.ev, Go.Ev.Env.get, Go.Ev.Env.set, Go.Ev.look, Go.Ev.argVars, Go.Ev.resVals, Go.Ev.resVal, Go.Ev.resOf, Go.Ev.kill, Go.Ev.leave, Go.Ev.settle, Go.Ev.keep, Go.Ev.varsLo, Go.Ev.marksLo, Go.Ev.storeLo, Go.Ev.lo_v, Go.Ev.lo_fsl, Go.Ev.lo_fn, Go.Ev.los_nil, Go.Ev.frz_lo, List.length_map, ↓Go.Ev.obind, ↓Go.Ev.itL_itB, ↓reduceIte, List.length_cons, List.length_nil, List.take_nil, Nat.reduceAdd, Nat.reduceEqDiff, reduceCtorEq, Bool.and_self, and_self, Nat.zero_add, eq_self]
  · rw [firstE_some k5]
    simp only [c_config_first_api_Start, k1, k4, k6, hcap, starts_lo, Go.Ev.runFunc, Go.Ev.exec, Go.Ev.evOpers, Go.Ev.evOper, Go.Ev.item_op, Go.Ev.evOp, Go.Ev.Opnd.ev, Go.Ev.Env.get, Go.Ev.Env.set, Go.Ev.look, Go.Ev.argVars, Go.Ev.resVals, Go.Ev.resVal, Go.Ev.resOf, Go.Ev.kill, Go.Ev.leave, Go.Ev.settle, Go.Ev.keep, Go.Ev.varsLo, Go.Ev.marksLo, Go.Ev.storeLo, Go.Ev.lo_v, Go.Ev.lo_fsl, Go.Ev.lo_fn, Go.Ev.los_nil, Go.Ev.frz_lo, List.length_map, ↓Go.Ev.obind, ↓Go.Ev.itL_itB, ↓reduceIte, List.length_cons, List.length_nil, List.take_zero, List.take_nil, Nat.reduceAdd, Nat.reduceEqDiff, reduceCtorEq, Bool.and_self, and_self, Nat.zero_add, eq_self]
end
end Go.Proofs.Ytlcakphdkpdenaa.K

namespace Go.Proofs.Ytlcakphdkpdenaa.K
open Go.Ev
set_option linter.unusedSimpArgs false
set_option linter.unusedVariables false
set_option maxRecDepth 10000
section
variable (c : Cfg)
def sizes0 (c : Cfg) : Bool := withinB c.lps.length 1 8 && (decide ((c.progs.length : Int) ≤ 8) && (withinB c.cap 1 64 && withinB c.fin 0 1152921504606846976))
def lenB (l : List Start) : Bool := decide ((l.length : Int) ≤ 8)
def sizesB (c : Cfg) : Bool := sizes0 c && c.lps.all lenB
/-- What has to hold of the lengths that a configuration is read with. -/
structure CfgOk (c : Cfg) : Prop where
  lps : c.lps.length < 2 ^ 62
  progs : c.progs.length < 2 ^ 62
  prog : ∀ p ∈ c.progs, p.length < 2 ^ 62
  lp : ∀ l ∈ c.lps, l.length < 2 ^ 62
theorem sizes_loop (h : CfgOk c) (b : Bool) :
    ∃ y, itB (exec (evL T) itL none c_config_checker_sizes_L1) (Ev.settle [3, 32, 33, 34] true 0) ⟨[(3, (.v (.bool (b)))), (32, (.fsl ((c.lps).map lpC) false)), (33, (.v (.int .i64 (c.lps.length)))), (34, (.v (.int .i64 (0))))], []⟩ [] = some y ∧ y.1 = .exit 0 ∧ y.2.1.marks = [] ∧ y.2.2 = [] ∧ Ev.look y.2.1.vars 3 = some (.v (.bool (b && c.lps.all lenB))) := by
  have hlp := h.lps
  have := itB_for (f := exec (evL T) itL none c_config_checker_sizes_L1) (s := Ev.settle [3, 32, 33, 34] true 0) (α := Bool) (fun i b => ⟨[(3, (.v (.bool (b)))), (32, (.fsl ((c.lps).map lpC) false)), (33, (.v (.int .i64 (c.lps.length)))), (34, (.v (.int .i64 ((i : Int)))))], []⟩) (fun _ _ => [])
    (fun i r => r = (b && (c.lps.take i).all lenB)) c.lps.length (fun y => y.1 = .exit 0 ∧ y.2.1.marks = [] ∧ y.2.2 = [] ∧ Ev.look y.2.1.vars 3 = some (.v (.bool (b && c.lps.all lenB)))) ?_ ?_ 0 b (Nat.zero_le _) (by simp)
  · exact this
  · rintro i r hi hr
    obtain ⟨x, hx⟩ : ∃ x, c.lps[i]? = some x := ⟨_, List.getElem?_eq_getElem hi⟩
    have hi' : (i : Int) < (c.lps.length : Int) := by omega
    have hw : IntKind.i64.wrap ((i : Int) + 1) = ((i + 1 : Nat) : Int) := by rw [w64_small (by omega) (by omega)]; simp
    have hn : (b && (c.lps.take (i + 1)).all lenB) = (r && lenB x) := by rw [hr, take_next hx, List.all_append, ← Bool.and_assoc]; simp
    refine .inl ⟨r && lenB x, ?_, hn.symm⟩
    cases r <;> simp only [c_config_checker_sizes_L1, Int.natCast_nonneg, Int.toNat_natCast, List.getElem?_map, Option.map_some, hx, hi', hw, lps_lo, lpC, lenB, Go.Ev.exec, Go.Ev.evOpers, Go.Ev.evOper, Go.Ev.item_op, Go.Ev.evOp, Go.Ev.Opnd.ev, Go.Ev.Env.get, Go.Ev.Env.set, Go.Ev.Env.unset, Go.Ev.look, Go.Ev.cellsAt, Go.Ev.loadC, Go.Ev.bin_add, Go.Ev.bin_lss, Go.Ev.bin_leq, Go.Ev.settle, Go.Ev.keep, Go.Ev.varsLo, Go.Ev.marksLo, Go.Ev.storeLo, Go.Ev.lo_v, Go.Ev.lo_fsl, List.length_map, ↓Go.Ev.obind, Go.Ev.it1, ↓reduceIte, List.length_cons, List.length_nil, List.take_nil, List.head?_cons, Nat.reduceEqDiff, decide_true, Bool.and_self, Bool.true_and, Bool.false_eq_true, and_self, Nat.zero_add, eq_self, Bool.false_and]
  · rintro r hr
    rw [List.take_length] at hr
    simp only [c_config_checker_sizes_L1, Int.lt_irrefl, Go.Ev.exec, Go.Ev.evOpers, Go.Ev.evOper, Go.Ev.item_op, Go.Ev.evOp, Go.Ev.Opnd.ev, Go.Ev.Env.get, Go.Ev.Env.set, Go.Ev.look, Go.Ev.bin_lss, ↓Go.Ev.obind, Go.Ev.it1, ↓reduceIte, Nat.reduceEqDiff, decide_false, Bool.false_eq_true, eq_self]
    exact ⟨_, rfl, rfl, rfl, rfl, by rw [← hr]; rfl⟩
theorem checker_sizes_ev (h : CfgOk c) : (evL T).call n_config_checker_sizes [(.agg [(.fsl ((c.lps).map lpC) false), (.fsl ((c.progs).map progC) false), (.v (.int .i64 (c.look))), (.v (.int .i64 (c.fin))), (.v (.int .i64 (c.cap)))])] [] = some ((.v (.int .i64 (okZ (sizesB c) 1))), []) := by
  obtain ⟨⟨y, e, σ⟩, k1, k2, k3, k4, k5⟩ := sizes_loop c h (sizes0 c)
  simp only at k2 k3 k4 k5
  subst k2; subst k4
  have v := config_verdict_ev (sizesB c) 1
  rw [show sizesB c = (sizes0 c && c.lps.all lenB) from rfl] at v ⊢
  rw [evL_code ext_config_checker_sizes code_config_checker_sizes]
  unfold sizes0 at k1 k5 v ⊢
  cases h1 : withinB c.lps.length 1 8 <;> simp only [h1, Bool.false_and, Bool.true_and] at k1 k5 v ⊢
  · simp only [c_config_checker_sizes, config_within_ev, h1, k1, k3, k5, v, lps_lo, okZ, Go.Ev.runFunc, Go.Ev.exec, Go.Ev.evOpers, Go.Ev.evOper, Go.Ev.item_op, Go.Ev.item_P, Go.Ev.evOp, Go.Ev.evs, Go.Ev.Opnd.ev, Go.Ev.Env.get, Go.Ev.Env.set, Go.Ev.Env.unset, Go.Ev.look, Go.Ev.argVars, Go.Ev.cellsAt, Go.Ev.loadC, Go.Ev.AV.cells, Go.Ev.plains, Go.Ev.AV.plain, Go.Ev.resVals, Go.Ev.resVal, Go.Ev.resOf, Go.Ev.kill, Go.Ev.leave, Go.Ev.settle, Go.Ev.keep, Go.Ev.varsLo, Go.Ev.marksLo, Go.Ev.storeLo, Go.Ev.lo_v, Go.Ev.lo_fsl, Go.Ev.los_nil, Go.Ev.los_cons, List.length_map, ↓Go.Ev.obind, ↓Go.Ev.itL_itB, ↓reduceIte, List.length_cons, List.length_nil, List.take_nil, List.drop_zero, List.head?_cons, Nat.reduceEqDiff, Bool.and_self, Bool.false_eq_true, and_self, ne_eq, not_false_eq_true, List.cons_ne_nil, Nat.zero_add, eq_self]
  by_cases h2 : (c.progs.length : Int) ≤ 8 <;> simp only [h2, decide_true, decide_false, Bool.false_and, Bool.true_and] at k1 k5 v ⊢
  · cases h3 : withinB c.cap 1 64 <;> simp only [h3, Bool.false_and, Bool.true_and] at k1 k5 v ⊢
    · simp only [c_config_checker_sizes, config_within_ev, h1, h2, h3, k1, k3, k5, v, lps_lo, okZ, Go.Ev.runFunc, Go.Ev.exec, Go.Ev.evOpers, Go.Ev.evOper, Go.Ev.item_op, Go.Ev.item_P, Go.Ev.evOp, Go.Ev.evs, Go.Ev.Opnd.ev, Go.Ev.Env.get, Go.Ev.Env.set, Go.Ev.Env.unset, Go.Ev.look, Go.Ev.argVars, Go.Ev.cellsAt, Go.Ev.loadC, Go.Ev.AV.cells, Go.Ev.plains, Go.Ev.AV.plain, Go.Ev.bin_leq, Go.Ev.resVals, Go.Ev.resVal, Go.Ev.resOf, Go.Ev.kill, Go.Ev.leave, Go.Ev.settle, Go.Ev.keep, Go.Ev.varsLo, Go.Ev.marksLo, Go.Ev.storeLo, Go.Ev.lo_v, Go.Ev.lo_fsl, Go.Ev.los_nil, Go.Ev.los_cons, List.length_map, ↓Go.Ev.obind, ↓Go.Ev.itL_itB, ↓reduceIte, List.length_cons, List.length_nil, List.take_nil, List.drop_succ_cons, List.drop_zero, List.head?_cons, Nat.reduceEqDiff, decide_true, Bool.and_self, Bool.false_eq_true, and_self, ne_eq, not_false_eq_true, List.cons_ne_nil, Nat.zero_add, eq_self]
    · simp only [c_config_checker_sizes, config_within_ev, h1, h2, h3, k1, k3, k5, v, lps_lo, okZ, Go.Ev.runFunc, Go.Ev.exec, Go.Ev.evOpers, Go.Ev.evOper, Go.Ev.item_op, Go.Ev.item_P, Go.Ev.evOp, Go.Ev.evs, Go.Ev.Opnd.ev, Go.Ev.Env.get, Go.Ev.Env.set, Go.Ev.look, Go.Ev.argVars, Go.Ev.cellsAt, Go.Ev.loadC, Go.Ev.AV.cells, Go.Ev.plains, Go.Ev.AV.plain, Go.Ev.bin_leq, Go.Ev.resVals, Go.Ev.resVal, Go.Ev.resOf, Go.Ev.kill, Go.Ev.leave, Go.Ev.settle, Go.Ev.keep, Go.Ev.varsLo, Go.Ev.marksLo, Go.Ev.storeLo, Go.Ev.lo_v, Go.Ev.lo_fsl, Go.Ev.los_nil, Go.Ev.los_cons, List.length_map, ↓Go.Ev.obind, ↓Go.Ev.itL_itB, ↓reduceIte, List.length_cons, List.length_nil, List.take_nil, List.drop_succ_cons, List.drop_zero, List.head?_cons, Nat.reduceEqDiff, decide_true, Bool.and_self, Bool.false_eq_true, and_self, ne_eq, not_false_eq_true, List.cons_ne_nil, Nat.zero_add, eq_self]
  · simp only [c_config_checker_sizes, config_within_ev, h1, h2, k1, k3, k5, v, lps_lo, okZ, Go.Ev.runFunc, Go.Ev.exec, Go.Ev.evOpers, Go.Ev.evOper, Go.Ev.item_op, Go.Ev.item_P, Go.Ev.evOp, Go.Ev.evs, Go.Ev.Opnd.ev, Go.Ev.Env.get, Go.Ev.Env.set, Go.Ev.Env.unset, Go.Ev.look, Go.Ev.argVars, Go.Ev.cellsAt, Go.Ev.loadC, Go.Ev.AV.cells, Go.Ev.plains, Go.Ev.AV.plain, Go.Ev.bin_leq, Go.Ev.resVals, Go.Ev.resVal, Go.Ev.resOf, Go.Ev.kill, Go.Ev.leave, Go.Ev.settle, Go.Ev.keep, Go.Ev.varsLo, Go.Ev.marksLo, Go.Ev.storeLo, Go.Ev.lo_v, Go.Ev.lo_fsl, Go.Ev.los_nil, Go.Ev.los_cons, List.length_map, ↓Go.Ev.obind, ↓Go.Ev.itL_itB, ↓reduceIte, List.length_cons, List.length_nil, List.take_nil, List.drop_succ_cons, List.drop_zero, List.head?_cons, Nat.reduceEqDiff, decide_false, Bool.and_self, Bool.false_eq_true, and_self, ne_eq, not_false_eq_true, List.cons_ne_nil, Nat.zero_add, eq_self]
theorem checker_lookahead_ev : (evL T).call n_config_checker_lookahead [(.agg [(.fsl ((c.lps).map lpC) false), (.fsl ((c.progs).map progC) false), (.v (.int .i64 (c.look))), (.v (.int .i64 (c.fin))), (.v (.int .i64 (c.cap)))])] [] = some ((.v (.int .i64 (okZ (decide (c.look ≥ 1)) 20))), []) := by
  rw [evL_code ext_config_checker_lookahead code_config_checker_lookahead]
  have v := config_verdict_ev (decide (c.look ≥ 1)) 20
  simp only [c_config_checker_lookahead, v, Go.Ev.runFunc, Go.Ev.exec, Go.Ev.evOpers, Go.Ev.evOper, Go.Ev.item_op, Go.Ev.item_P, Go.Ev.evOp, Go.Ev.evs, Go.Ev.Opnd.ev, Go.Ev.Env.get, Go.Ev.Env.set, Go.Ev.look, Go.Ev.argVars, Go.Ev.cellsAt, Go.Ev.loadC, Go.Ev.AV.cells, Go.Ev.plains, Go.Ev.AV.plain, Go.Ev.bin_geq, Go.Ev.resVals, Go.Ev.resVal, Go.Ev.resOf, Go.Ev.kill, Go.Ev.leave, Go.Ev.storeLo, Go.Ev.lo_v, Go.Ev.los_nil, Go.Ev.los_cons, ↓Go.Ev.obind, ↓reduceIte, List.length_cons, List.length_nil, List.take_nil, List.drop_succ_cons, List.drop_zero, List.head?_cons, Nat.reduceEqDiff, Bool.and_self, Bool.false_eq_true, and_self, ne_eq, not_false_eq_true, List.cons_ne_nil, Nat.zero_add, eq_self]
def progZ (c : Cfg) (p : List OpI) : Int := checkZ p c.progs.length c.lps.length c.look
theorem programs_1_ev (h : CfgOk c) (p : List OpI) (hp : p ∈ c.progs) : (evL T).call n_config_checker_programs_1 [(.fsl ((p).map OpI.r) false), (.fptr [(.fsl ((c.lps).map lpC) false), (.fsl ((c.progs).map progC) false), (.v (.int .i64 (c.look))), (.v (.int .i64 (c.fin))), (.v (.int .i64 (c.cap)))])] [] = some ((.v (.int .i64 (progZ c p))), []) := by
  rw [evL_code ext_config_checker_programs_1 code_config_checker_programs_1]
  have := h.progs
  have v := program_Check_ev p false c.progs.length c.lps.length c.look (h.prog p hp) (w64_small (by omega) (by omega))
  simp only [c_config_checker_programs_1, v, progZ, prog_lo, Go.Ev.runFunc, Go.Ev.exec, Go.Ev.evOpers, Go.Ev.evOper, Go.Ev.item_op, Go.Ev.item_P, Go.Ev.evOp, Go.Ev.evs, Go.Ev.Opnd.ev, Go.Ev.Env.get, Go.Ev.Env.set, Go.Ev.look, Go.Ev.argVars, Go.Ev.cellsAt, Go.Ev.loadC, Go.Ev.resVals, Go.Ev.resVal, Go.Ev.resOf, Go.Ev.kill, Go.Ev.leave, Go.Ev.storeLo, Go.Ev.lo_v, Go.Ev.lo_fsl, Go.Ev.los_nil, Go.Ev.los_cons, List.length_map, ↓Go.Ev.obind, ↓reduceIte, List.length_cons, List.length_nil, List.take_nil, List.drop_succ_cons, List.drop_zero, List.head?_cons, Nat.reduceAdd, Nat.reduceEqDiff, reduceCtorEq, Bool.and_self, Bool.false_eq_true, and_self, Nat.zero_add, eq_self]
theorem checker_programs_ev (h : CfgOk c) : (evL T).call n_config_checker_programs [(.agg [(.fsl ((c.lps).map lpC) false), (.fsl ((c.progs).map progC) false), (.v (.int .i64 (c.look))), (.v (.int .i64 (c.fin))), (.v (.int .i64 (c.cap)))])] [] = some ((.v (.int .i64 (firstE (progZ c) c.progs))), []) := by
  have v := first_prog_ev n_config_checker_programs_1 [(.fptr [(.fsl ((c.lps).map lpC) false), (.fsl ((c.progs).map progC) false), (.v (.int .i64 (c.look))), (.v (.int .i64 (c.fin))), (.v (.int .i64 (c.cap)))])] (by simp only [lps_lo, progs_lo, Go.Ev.lo_v, Go.Ev.lo_fsl, Go.Ev.lo_fptr, Go.Ev.los_nil, Go.Ev.los_cons, Bool.and_self, eq_self]) c.progs (progZ c) h.progs fun p hp => programs_1_ev c h p hp
  rw [evL_code ext_config_checker_programs code_config_checker_programs]
  simp only [c_config_checker_programs, v, lps_lo, progs_lo, Go.Ev.runFunc, Go.Ev.exec, Go.Ev.evOpers, Go.Ev.evOper, Go.Ev.item_op, Go.Ev.item_P, Go.Ev.evOp, Go.Ev.evs, Go.Ev.Opnd.ev, Go.Ev.Env.get, Go.Ev.Env.set, Go.Ev.look, Go.Ev.argVars, Go.Ev.cellsAt, Go.Ev.loadC, Go.Ev.AV.cells, Go.Ev.plains, Go.Ev.AV.plain, Go.Ev.resVals, Go.Ev.resVal, Go.Ev.resOf, Go.Ev.kill, Go.Ev.leave, Go.Ev.storeLo, Go.Ev.lo_v, Go.Ev.lo_fsl, Go.Ev.lo_fptr, Go.Ev.lo_fn, Go.Ev.los_nil, Go.Ev.los_cons, ↓Go.Ev.obind, ↓reduceIte, List.length_cons, List.length_nil, List.take_nil, List.drop_succ_cons, List.drop_zero, List.head?_cons, Nat.reduceEqDiff, Bool.and_self, Bool.false_eq_true, and_self, ne_eq, not_false_eq_true, List.cons_ne_nil, Nat.zero_add, eq_self]
def startE (c : Cfg) (s : Start) : Int := if withinB s.prog 0 ((c.progs.length : Int) - 1) = false then 22 else okZ (withinB s.time 0 1152921504606846976) 11
theorem starts_1_1_ev (h : CfgOk c) (s : Start) : (evL T).call n_config_checker_starts_1_1 [.agg [(.v (.int .i64 (s.prog))), (.v (.int .i64 (s.time)))], (.fptr [(.fsl ((c.lps).map lpC) false), (.fsl ((c.progs).map progC) false), (.v (.int .i64 (c.look))), (.v (.int .i64 (c.fin))), (.v (.int .i64 (c.cap)))])] [.row 2 [[(.v (.int .i64 (s.prog))), (.v (.int .i64 (s.time)))]] 0] = some ((.v (.int .i64 (startE c s))), [.row 2 [[(.v (.int .i64 (s.prog))), (.v (.int .i64 (s.time)))]] 0]) := by
  rw [evL_code ext_config_checker_starts_1_1 code_config_checker_starts_1_1]
  have := h.progs
  have hw : IntKind.i64.wrap ((c.progs.length : Int) - 1) = (c.progs.length : Int) - 1 := w64_small (by omega) (by omega)
  have v := config_verdict_ev (withinB s.time 0 1152921504606846976) 11
  cases h1 : withinB s.prog 0 ((c.progs.length : Int) - 1) <;> simp only [c_config_checker_starts_1_1, config_within_ev, v, hw, h1, startE, Go.Ev.runFunc, Go.Ev.exec, Go.Ev.evOpers, Go.Ev.evOper, Go.Ev.item_op, Go.Ev.item_P, Go.Ev.evOp, Go.Ev.evs, Go.Ev.Opnd.ev, Go.Ev.Env.get, Go.Ev.Env.set, Go.Ev.look, Go.Ev.argVars, Go.Ev.cellsAt, Go.Ev.loadC, Go.Ev.AV.cells, Go.Ev.plains, Go.Ev.AV.plain, Go.Ev.bin_sub, Go.Ev.resVals, Go.Ev.resVal, Go.Ev.resOf, Go.Ev.kill, Go.Ev.leave, Go.Ev.storeLo, Go.Ev.SObj.lo, Go.Ev.lo_v, Go.Ev.los_nil, Go.Ev.los_cons, Go.Ev.loss_nil, Go.Ev.loss_cons, List.length_map, ↓Go.Ev.obind, ↓reduceIte, List.length_cons, List.length_nil, List.take_succ_cons, List.take_nil, List.drop_succ_cons, List.drop_zero, List.head?_cons, Nat.reduceAdd, Nat.reduceEqDiff, reduceCtorEq, Bool.and_self, Bool.not_true, Bool.not_false, Bool.false_eq_true, Bool.true_eq_false, and_self, ne_eq, not_false_eq_true, List.cons_ne_nil, Nat.zero_add, eq_self]
theorem starts_1_ev (h : CfgOk c) (l : List Start) (hl : l ∈ c.lps) : (evL T).call n_config_checker_starts_1 [(.fsl ((l).map Start.r) false), (.fptr [(.fsl ((c.lps).map lpC) false), (.fsl ((c.progs).map progC) false), (.v (.int .i64 (c.look))), (.v (.int .i64 (c.fin))), (.v (.int .i64 (c.cap)))])] [] = some ((.v (.int .i64 (firstE (startE c) l))), []) := by
  have v := first_start_ev n_config_checker_starts_1_1 [(.fptr [(.fsl ((c.lps).map lpC) false), (.fsl ((c.progs).map progC) false), (.v (.int .i64 (c.look))), (.v (.int .i64 (c.fin))), (.v (.int .i64 (c.cap)))])] (by simp only [lps_lo, progs_lo, Go.Ev.lo_v, Go.Ev.lo_fsl, Go.Ev.lo_fptr, Go.Ev.los_nil, Go.Ev.los_cons, Bool.and_self, eq_self]) l (startE c) (h.lp l hl) fun s _ => starts_1_1_ev c h s
  rw [evL_code ext_config_checker_starts_1 code_config_checker_starts_1]
  simp only [c_config_checker_starts_1, v, starts_lo, lps_lo, progs_lo, Go.Ev.runFunc, Go.Ev.exec, Go.Ev.evOpers, Go.Ev.evOper, Go.Ev.item_op, Go.Ev.item_P, Go.Ev.evOp, Go.Ev.evs, Go.Ev.Opnd.ev, Go.Ev.Env.get, Go.Ev.Env.set, Go.Ev.look, Go.Ev.argVars, Go.Ev.resVals, Go.Ev.resVal, Go.Ev.resOf, Go.Ev.kill, Go.Ev.leave, Go.Ev.storeLo, Go.Ev.lo_v, Go.Ev.lo_fsl, Go.Ev.lo_fptr, Go.Ev.lo_fn, Go.Ev.los_nil, Go.Ev.los_cons, ↓Go.Ev.obind, ↓reduceIte, List.length_cons, List.length_nil, List.take_nil, Nat.reduceAdd, Nat.reduceEqDiff, reduceCtorEq, Bool.and_self, and_self, Nat.zero_add, eq_self]
theorem checker_starts_ev (h : CfgOk c) : (evL T).call n_config_checker_starts [(.agg [(.fsl ((c.lps).map lpC) false), (.fsl ((c.progs).map progC) false), (.v (.int .i64 (c.look))), (.v (.int .i64 (c.fin))), (.v (.int .i64 (c.cap)))])] [] = some ((.v (.int .i64 (firstE (firstE (startE c)) c.lps))), []) := by
  have v := first_starts_ev n_config_checker_starts_1 [(.fptr [(.fsl ((c.lps).map lpC) false), (.fsl ((c.progs).map progC) false), (.v (.int .i64 (c.look))), (.v (.int .i64 (c.fin))), (.v (.int .i64 (c.cap)))])] (by simp only [lps_lo, progs_lo, Go.Ev.lo_v, Go.Ev.lo_fsl, Go.Ev.lo_fptr, Go.Ev.los_nil, Go.Ev.los_cons, Bool.and_self, eq_self]) c.lps (firstE (startE c)) h.lps fun l hl => starts_1_ev c h l hl
  rw [evL_code ext_config_checker_starts code_config_checker_starts]
  simp only [c_config_checker_starts, v, lps_lo, progs_lo, Go.Ev.runFunc, Go.Ev.exec, Go.Ev.evOpers, Go.Ev.evOper, Go.Ev.item_op, Go.Ev.item_P, Go.Ev.evOp, Go.Ev.evs, Go.Ev.Opnd.ev, Go.Ev.Env.get, Go.Ev.Env.set, Go.Ev.look, Go.Ev.argVars, Go.Ev.cellsAt, Go.Ev.loadC, Go.Ev.AV.cells, Go.Ev.plains, Go.Ev.AV.plain, Go.Ev.resVals, Go.Ev.resVal, Go.Ev.resOf, Go.Ev.kill, Go.Ev.leave, Go.Ev.storeLo, Go.Ev.lo_v, Go.Ev.lo_fsl, Go.Ev.lo_fptr, Go.Ev.lo_fn, Go.Ev.los_nil, Go.Ev.los_cons, ↓Go.Ev.obind, ↓reduceIte, List.length_cons, List.length_nil, List.take_nil, List.drop_zero, List.head?_cons, Nat.reduceEqDiff, Bool.and_self, Bool.false_eq_true, and_self, ne_eq, not_false_eq_true, List.cons_ne_nil, Nat.zero_add, eq_self]
/-! ### The rules, one after another -/
def ruleR (c : Cfg) (p : Nat × Int) : List AV := [.fn (.func p.1) [(.agg [(.fsl ((c.lps).map lpC) false), (.fsl ((c.progs).map progC) false), (.v (.int .i64 (c.look))), (.v (.int .i64 (c.fin))), (.v (.int .i64 (c.cap)))])] []]
theorem rule_lo (n : Nat) (p : Nat × Int) : los n (ruleR c p) = true := by simp only [ruleR, lps_lo, progs_lo, Go.Ev.lo_v, Go.Ev.lo_agg, Go.Ev.lo_fsl, Go.Ev.lo_fn, Go.Ev.los_nil, Go.Ev.los_cons, Bool.and_self, eq_self]
theorem rules_lo (n : Nat) (l : List (Nat × Int)) : loss n (l.map (ruleR c)) = true := loss_map (rule_lo c n) l
theorem first_func_ev (l : List (Nat × Int)) (b : Bool) (hl : l.length < 2 ^ 62) (hf : ∀ p ∈ l, (evL T).call p.1 [(.agg [(.fsl ((c.lps).map lpC) false), (.fsl ((c.progs).map progC) false), (.v (.int .i64 (c.look))), (.v (.int .i64 (c.fin))), (.v (.int .i64 (c.cap)))])] [] = some ((.v (.int .i64 (p.2))), [])) :
    callZ (evL T) n_config_first_func_api_Errno [.fsl (l.map (ruleR c)) b, .fn (.func n_config_Check_1) [] []] = some (.v (.int .i64 (firstE Prod.snd l))) := by
  have h1 : ∀ p ∈ l, (evL T).call n_config_Check_1 [.fn (.func p.1) [(.agg [(.fsl ((c.lps).map lpC) false), (.fsl ((c.progs).map progC) false), (.v (.int .i64 (c.look))), (.v (.int .i64 (c.fin))), (.v (.int .i64 (c.cap)))])] []] [] = some ((.v (.int .i64 (p.2))), []) := fun p hp => by
    have := hf p hp
    rw [evL_code ext_config_Check_1 code_config_Check_1]
    simp only [c_config_Check_1, this, Go.Ev.runFunc, Go.Ev.exec, Go.Ev.evOpers, Go.Ev.evOper, Go.Ev.item_op, Go.Ev.item_v, Go.Ev.evOp, Go.Ev.evs, Go.Ev.Opnd.ev, Go.Ev.Env.get, Go.Ev.Env.set, Go.Ev.look, Go.Ev.argVars, Go.Ev.resVals, Go.Ev.resVal, Go.Ev.resOf, Go.Ev.kill, Go.Ev.leave, Go.Ev.storeLo, Go.Ev.lo_v, ↓Go.Ev.obind, ↓reduceIte, List.length_cons, List.length_nil, List.take_nil, List.append_nil, reduceCtorEq, and_self, Nat.zero_add, eq_self]
  have hL : ∃ y, itB (exec (evL T) itL none c_config_first_func_api_Errno_L1) (Ev.settle [1, 8, 9, 10] true 0) ⟨[(1, .fn (.func n_config_Check_1) [] []), (8, .fsl (l.map (ruleR c)) b), (9, (.v (.int .i64 (l.length)))), (10, (.v (.int .i64 (0))))], []⟩ [] = some y ∧ (l.all (fun x => decide (x.2 = 0)) = true ∧ (y.1 = .exit 0 ∧ y.2.1.marks = [] ∧ y.2.2 = []) ∨
      l.all (fun x => decide (x.2 = 0)) = false ∧ ∃ x, l.find? (fun x => !decide (x.2 = 0)) = some x ∧ (y.1 = .ret ∧ y.2.1.marks = [] ∧ y.2.2 = [] ∧ Ev.look y.2.1.vars 4 = some (.v (.int .i64 (x.2))))) := by
    refine itB_find l (fun i => ⟨[(1, .fn (.func n_config_Check_1) [] []), (8, .fsl (l.map (ruleR c)) b), (9, (.v (.int .i64 (l.length)))), (10, (.v (.int .i64 (i))))], []⟩) [] (fun x => decide (x.2 = 0)) _ (fun x y => _) ?_ ?_ ?_
    · intro i x hi hx hp
      have hi' : (i : Int) < (l.length : Int) := by omega
      have hw : IntKind.i64.wrap ((i : Int) + 1) = ((i + 1 : Nat) : Int) := by rw [w64_small (by omega) (by omega)]; simp
      have h2 := h1 x (List.mem_of_getElem? hx)
      rw [of_decide_eq_true hp] at h2
      simp only [c_config_first_func_api_Errno_L1, Int.natCast_nonneg, Int.toNat_natCast, List.getElem?_map, Option.map_some, hx, hi', hw, h2, rules_lo, ruleR, Go.Ev.exec, Go.Ev.evOpers, Go.Ev.evOper, Go.Ev.item_op, Go.Ev.item_v, Go.Ev.evOp, Go.Ev.evs, Go.Ev.Opnd.ev, Go.Ev.Env.get, Go.Ev.Env.set, Go.Ev.look, Go.Ev.cellsAt, Go.Ev.loadC, Go.Ev.bin_add, Go.Ev.bin_neq, Go.Ev.bin_lss, Go.Ev.settle, Go.Ev.keep, Go.Ev.varsLo, Go.Ev.marksLo, Go.Ev.storeLo, Go.Ev.lo_v, Go.Ev.lo_fsl, Go.Ev.lo_fn, Go.Ev.los_nil, ↓Go.Ev.obind, Go.Ev.it1, ↓reduceIte, List.length_cons, List.length_nil, List.take_nil, List.nil_append, List.append_nil, List.head?_cons, Nat.reduceEqDiff, decide_true, decide_false, Bool.and_self, Bool.false_eq_true, and_self, ne_eq, not_true_eq_false, Nat.zero_add, eq_self]
    · intro i x hi hx hp
      have hi' : (i : Int) < (l.length : Int) := by omega
      have h2 := h1 x (List.mem_of_getElem? hx)
      have h3 : ¬ x.2 = 0 := of_decide_eq_false hp
      simp only [c_config_first_func_api_Errno_L1, Int.natCast_nonneg, Int.toNat_natCast, List.getElem?_map, Option.map_some, hx, hi', h2, h3, ruleR, Go.Ev.exec, Go.Ev.evOpers, Go.Ev.evOper, Go.Ev.item_op, Go.Ev.item_v, Go.Ev.evOp, Go.Ev.evs, Go.Ev.Opnd.ev, Go.Ev.Env.get, Go.Ev.Env.set, Go.Ev.look, Go.Ev.cellsAt, Go.Ev.loadC, Go.Ev.bin_neq, Go.Ev.bin_lss, ↓Go.Ev.obind, Go.Ev.it1, ↓reduceIte, List.length_cons, List.length_nil, List.nil_append, List.append_nil, List.head?_cons, Nat.reduceEqDiff, decide_true, Bool.false_eq_true, ne_eq, not_false_eq_true, Nat.zero_add, eq_self]
      exact ⟨_, rfl, rfl, rfl, rfl, rfl⟩
    · simp only [c_config_first_func_api_Errno_L1, Int.lt_irrefl, Go.Ev.exec, Go.Ev.evOpers, Go.Ev.evOper, Go.Ev.item_op, Go.Ev.evOp, Go.Ev.Opnd.ev, Go.Ev.Env.get, Go.Ev.Env.set, Go.Ev.look, Go.Ev.bin_lss, ↓Go.Ev.obind, Go.Ev.it1, ↓reduceIte, Nat.reduceEqDiff, decide_false, Bool.false_eq_true, eq_self]
      exact ⟨_, rfl, rfl, rfl, rfl⟩
  obtain ⟨⟨y, e, σ⟩, k1, k2⟩ := hL
  simp only at k2
  rw [callZ, evL_code ext_config_first_func_api_Errno code_config_first_func_api_Errno]
  rcases k2 with ⟨k3, rfl, k4, rfl⟩ | ⟨k3, x, k5, rfl, k4, rfl, k6⟩
  · rw [firstE_all k3]
    simp only [c_config_first_func_api_Errno, k1, k4, rules_lo, Go.Ev.runFunc, Go.Ev.exec, Go.Ev.evOpers, Go.Ev.evOper, Go.Ev.item_op, Go.Ev.evOp, Go.Ev.Opnd.ev, Go.Ev.Env.get, Go.Ev.Env.set, Go.Ev.look, Go.Ev.argVars, Go.Ev.resVals, Go.Ev.resVal, Go.Ev.resOf, Go.Ev.kill, Go.Ev.leave, Go.Ev.settle, Go.Ev.keep, Go.Ev.varsLo, Go.Ev.marksLo, Go.Ev.storeLo, Go.Ev.lo_v, Go.Ev.lo_fsl, Go.Ev.lo_fn, Go.Ev.los_nil, Go.Ev.frz_lo, List.length_map, ↓Go.Ev.obind, ↓Go.Ev.itL_itB, ↓reduceIte, List.length_cons, List.length_nil, List.take_nil, Nat.reduceAdd, Nat.reduceEqDiff, reduceCtorEq, Bool.and_self, and_self, Nat.zero_add, eq_self]
  · rw [firstE_some k5]
    simp only [c_config_first_func_api_Errno, k1, k4, k6, rules_lo, Go.Ev.runFunc, Go.Ev.exec, Go.Ev.evOpers, Go.Ev.evOper, Go.Ev.item_op, Go.Ev.evOp, Go.Ev.Opnd.ev, Go.Ev.Env.get, Go.Ev.Env.set, Go.Ev.look, Go.Ev.argVars, Go.Ev.resVals, Go.Ev.resVal, Go.Ev.resOf, Go.Ev.kill, Go.Ev.leave, Go.Ev.settle, Go.Ev.keep, Go.Ev.varsLo, Go.Ev.marksLo, Go.Ev.storeLo, Go.Ev.lo_v, Go.Ev.lo_fsl, Go.Ev.lo_fn, Go.Ev.los_nil, Go.Ev.frz_lo, List.length_map, ↓Go.Ev.obind, ↓Go.Ev.itL_itB, ↓reduceIte, List.length_cons, List.length_nil, List.take_nil, Nat.reduceAdd, Nat.reduceEqDiff, reduceCtorEq, Bool.and_self, and_self, Nat.zero_add, eq_self]
def cfgL (c : Cfg) : List (Nat × Int) := [(n_config_checker_sizes, okZ (sizesB c) 1), (n_config_checker_lookahead, okZ (decide (c.look ≥ 1)) 20), (n_config_checker_programs, firstE (progZ c) c.progs), (n_config_checker_starts, firstE (firstE (startE c)) c.lps)]
/-- What Check says of a configuration. -/
def cfgZ (c : Cfg) : Int := firstE Prod.snd (cfgL c)
theorem config_Check_ev (h : CfgOk c) : callZ (evL T) n_config_Check [(.agg [(.fsl ((c.lps).map lpC) false), (.fsl ((c.progs).map progC) false), (.v (.int .i64 (c.look))), (.v (.int .i64 (c.fin))), (.v (.int .i64 (c.cap)))])] = some (.v (.int .i64 (cfgZ c))) := by
  have v := first_func_ev c (cfgL c) true (by simp [cfgL]) (by
    intro p hp
    simp only [cfgL, List.mem_cons, List.not_mem_nil, or_false] at hp
    rcases hp with rfl | rfl | rfl | rfl
    · exact checker_sizes_ev c h
    · exact checker_lookahead_ev c
    · exact checker_programs_ev c h
    · exact checker_starts_ev c h)
  rw [show firstE Prod.snd (cfgL c) = cfgZ c from rfl] at v
  have hrep : List.replicate 4 ([.v .nilFunc] : List AV) = [[.v .nilFunc], [.v .nilFunc], [.v .nilFunc], [.v .nilFunc]] := rfl
  simp only [cfgL, List.map_cons, List.map_nil, ruleR] at v
  rw [callZ, evL_code ext_config_Check code_config_Check]
  simp only [c_config_Check, hrep, v, lps_lo, progs_lo, Go.Ev.runFunc, Go.Ev.exec, Go.Ev.evOpers, Go.Ev.evOper, Go.Ev.item_op, Go.Ev.item_P, Go.Ev.evOp, Go.Ev.evs, Go.Ev.Opnd.ev, Go.Ev.Env.get, Go.Ev.Env.set, Go.Ev.look, Go.Ev.argVars, Go.Ev.cellsAt, Go.Ev.loadC, Go.Ev.fillP, Go.Ev.fillR, Go.Ev.AV.cells, Go.Ev.AV.uc, Go.Ev.plains, Go.Ev.AV.plain, Go.Ev.resVals, Go.Ev.resVal, Go.Ev.resOf, Go.Ev.kill, Go.Ev.leave, Go.Ev.storeLo, Go.Ev.lo_v, Go.Ev.lo_agg, Go.Ev.lo_fsl, Go.Ev.lo_fn, Go.Ev.los_nil, Go.Ev.los_cons, Go.Ev.loss_nil, Go.Ev.loss_cons, Go.Ev.frz_lo, ↓Go.Ev.obind, ↓reduceIte, List.length_cons, List.length_nil, List.getElem?_cons_zero, List.take_succ_cons, List.take_zero, List.take_nil, List.drop_succ_cons, List.drop_zero, List.drop_nil, List.nil_append, List.append_nil, List.set_cons_zero, List.set_cons_succ, Nat.reduceAdd, Nat.reduceEqDiff, Nat.reduceMul, Nat.reduceLT, Nat.reduceLeDiff, Nat.reducePow, Bool.and_self, and_self, ne_eq, not_false_eq_true, List.cons_ne_nil, Nat.zero_add, Nat.lt_add_one, Nat.le_refl, eq_self]
end
end Go.Proofs.Ytlcakphdkpdenaa.K

namespace Go.Proofs.Ytlcakphdkpdenaa.K
open Go.Ev
set_option linter.unusedSimpArgs false
set_option linter.unusedVariables false
set_option maxRecDepth 10000
section
variable (c : Cfg)
def l12 (l : List Start) : Bool := !decide ((l.length : Int) > 12)
def l30 (p : List OpI) : Bool := !decide ((p.length : Int) > 30)
def greatB (c : Cfg) : Bool := decide ((c.lps.length : Int) > 12) || (decide ((c.progs.length : Int) > 12) || (!(c.lps.all l12) || !(c.progs.all l30)))
theorem great_l1 (hl : c.lps.length ≤ 12) :
    ∃ y, itB (exec (evL T) itL none c_law19_Great_L1) (Ev.settle [1, 3] true 0) ⟨[(1, (.fptr [(.fsl ((c.lps).map lpC) false), (.fsl ((c.progs).map progC) false), (.v (.int .i64 (c.look))), (.v (.int .i64 (c.fin))), (.v (.int .i64 (c.cap)))])), (3, (.v (.int .i64 (0))))], []⟩ [] = some y ∧ (c.lps.all l12 = true ∧ (y.1 = .exit 0 ∧ y.2.1.marks = [] ∧ y.2.2 = [] ∧ Ev.look y.2.1.vars 1 = some (.fptr [(.fsl ((c.lps).map lpC) false), (.fsl ((c.progs).map progC) false), (.v (.int .i64 (c.look))), (.v (.int .i64 (c.fin))), (.v (.int .i64 (c.cap)))])) ∨
      c.lps.all l12 = false ∧ ∃ x, c.lps.find? (fun x => !l12 x) = some x ∧ (y.1 = .ret ∧ y.2.1.marks = [] ∧ y.2.2 = [] ∧ Ev.look y.2.1.vars 2 = some (.v (.bool (true))))) := by
  refine itB_find c.lps (fun i => ⟨[(1, (.fptr [(.fsl ((c.lps).map lpC) false), (.fsl ((c.progs).map progC) false), (.v (.int .i64 (c.look))), (.v (.int .i64 (c.fin))), (.v (.int .i64 (c.cap)))])), (3, (.v (.int .i64 (i))))], []⟩) [] l12 _ (fun _ y => _) ?_ ?_ ?_
  · intro i x hi hx hp
    have hi' : (i : Int) < (c.lps.length : Int) := by omega
    have hw : IntKind.i64.wrap ((i : Int) + 1) = ((i + 1 : Nat) : Int) := by rw [w64_small (by omega) (by omega)]; simp
    have h1 : ¬ (x.length : Int) > 12 := by simpa [l12] using hp
    simp only [c_law19_Great_L1, Int.natCast_nonneg, Int.toNat_natCast, List.getElem?_map, Option.map_some, hx, hi', hw, h1, lps_lo, progs_lo, lpC, Go.Ev.exec, Go.Ev.evOpers, Go.Ev.evOper, Go.Ev.item_op, Go.Ev.evOp, Go.Ev.Opnd.ev, Go.Ev.Env.get, Go.Ev.Env.set, Go.Ev.look, Go.Ev.cellsAt, Go.Ev.loadC, Go.Ev.bin_add, Go.Ev.bin_lss, Go.Ev.bin_gtr, Go.Ev.settle, Go.Ev.keep, Go.Ev.varsLo, Go.Ev.marksLo, Go.Ev.storeLo, Go.Ev.lo_v, Go.Ev.lo_fsl, Go.Ev.lo_fptr, Go.Ev.los_nil, Go.Ev.los_cons, List.length_map, ↓Go.Ev.obind, Go.Ev.it1, ↓reduceIte, List.length_cons, List.length_nil, List.take_nil, List.drop_zero, List.head?_cons, Nat.reduceEqDiff, decide_true, decide_false, Bool.and_self, Bool.false_eq_true, and_self, Nat.zero_add, eq_self]
  · intro i x hi hx hp
    have hi' : (i : Int) < (c.lps.length : Int) := by omega
    have h1 : (x.length : Int) > 12 := by simpa [l12] using hp
    simp only [c_law19_Great_L1, Int.natCast_nonneg, Int.toNat_natCast, List.getElem?_map, Option.map_some, hx, hi', h1, lpC, Go.Ev.exec, Go.Ev.evOpers, Go.Ev.evOper, Go.Ev.item_op, Go.Ev.evOp, Go.Ev.Opnd.ev, Go.Ev.Env.get, Go.Ev.Env.set, Go.Ev.look, Go.Ev.cellsAt, Go.Ev.loadC, Go.Ev.bin_lss, Go.Ev.bin_gtr, List.length_map, ↓Go.Ev.obind, Go.Ev.it1, ↓reduceIte, List.length_cons, List.length_nil, List.drop_zero, List.head?_cons, Nat.reduceEqDiff, decide_true, Bool.false_eq_true, Nat.zero_add, eq_self]
    exact ⟨_, rfl, rfl, rfl, rfl, rfl⟩
  · simp only [c_law19_Great_L1, Int.lt_irrefl, Go.Ev.exec, Go.Ev.evOpers, Go.Ev.evOper, Go.Ev.item_op, Go.Ev.evOp, Go.Ev.Opnd.ev, Go.Ev.Env.get, Go.Ev.Env.set, Go.Ev.look, Go.Ev.cellsAt, Go.Ev.loadC, Go.Ev.bin_lss, List.length_map, ↓Go.Ev.obind, Go.Ev.it1, ↓reduceIte, List.drop_zero, List.head?_cons, Nat.reduceEqDiff, decide_false, Bool.false_eq_true, eq_self]
    exact ⟨_, rfl, rfl, rfl, rfl, rfl⟩
theorem great_l2 (hl : c.progs.length ≤ 12) :
    ∃ y, itB (exec (evL T) itL none c_law19_Great_L2) (Ev.settle [1, 4] true 0) ⟨[(1, (.fptr [(.fsl ((c.lps).map lpC) false), (.fsl ((c.progs).map progC) false), (.v (.int .i64 (c.look))), (.v (.int .i64 (c.fin))), (.v (.int .i64 (c.cap)))])), (4, (.v (.int .i64 (0))))], []⟩ [] = some y ∧ (c.progs.all l30 = true ∧ (y.1 = .exit 2 ∧ y.2.1.marks = [] ∧ y.2.2 = []) ∨
      c.progs.all l30 = false ∧ ∃ x, c.progs.find? (fun x => !l30 x) = some x ∧ (y.1 = .ret ∧ y.2.1.marks = [] ∧ y.2.2 = [] ∧ Ev.look y.2.1.vars 2 = some (.v (.bool (true))))) := by
  refine itB_find c.progs (fun i => ⟨[(1, (.fptr [(.fsl ((c.lps).map lpC) false), (.fsl ((c.progs).map progC) false), (.v (.int .i64 (c.look))), (.v (.int .i64 (c.fin))), (.v (.int .i64 (c.cap)))])), (4, (.v (.int .i64 (i))))], []⟩) [] l30 _ (fun _ y => _) ?_ ?_ ?_
  · intro i x hi hx hp
    have hi' : (i : Int) < (c.progs.length : Int) := by omega
    have hw : IntKind.i64.wrap ((i : Int) + 1) = ((i + 1 : Nat) : Int) := by rw [w64_small (by omega) (by omega)]; simp
    have h1 : ¬ (x.length : Int) > 30 := by simpa [l30] using hp
    simp only [c_law19_Great_L2, Int.natCast_nonneg, Int.toNat_natCast, List.getElem?_map, Option.map_some, hx, hi', hw, h1, lps_lo, progs_lo, progC, Go.Ev.exec, Go.Ev.evOpers, Go.Ev.evOper, Go.Ev.item_op, Go.Ev.evOp, Go.Ev.Opnd.ev, Go.Ev.Env.get, Go.Ev.Env.set, Go.Ev.look, Go.Ev.cellsAt, Go.Ev.loadC, Go.Ev.bin_add, Go.Ev.bin_lss, Go.Ev.bin_gtr, Go.Ev.settle, Go.Ev.keep, Go.Ev.varsLo, Go.Ev.marksLo, Go.Ev.storeLo, Go.Ev.lo_v, Go.Ev.lo_fsl, Go.Ev.lo_fptr, Go.Ev.los_nil, Go.Ev.los_cons, List.length_map, ↓Go.Ev.obind, Go.Ev.it1, ↓reduceIte, List.length_cons, List.length_nil, List.take_nil, List.drop_succ_cons, List.drop_zero, List.head?_cons, Nat.reduceEqDiff, decide_true, decide_false, Bool.and_self, Bool.false_eq_true, and_self, Nat.zero_add, eq_self]
  · intro i x hi hx hp
    have hi' : (i : Int) < (c.progs.length : Int) := by omega
    have h1 : (x.length : Int) > 30 := by simpa [l30] using hp
    simp only [c_law19_Great_L2, Int.natCast_nonneg, Int.toNat_natCast, List.getElem?_map, Option.map_some, hx, hi', h1, progC, Go.Ev.exec, Go.Ev.evOpers, Go.Ev.evOper, Go.Ev.item_op, Go.Ev.evOp, Go.Ev.Opnd.ev, Go.Ev.Env.get, Go.Ev.Env.set, Go.Ev.look, Go.Ev.cellsAt, Go.Ev.loadC, Go.Ev.bin_lss, Go.Ev.bin_gtr, List.length_map, ↓Go.Ev.obind, Go.Ev.it1, ↓reduceIte, List.length_cons, List.length_nil, List.drop_succ_cons, List.drop_zero, List.head?_cons, Nat.reduceEqDiff, decide_true, Bool.false_eq_true, Nat.zero_add, eq_self]
    exact ⟨_, rfl, rfl, rfl, rfl, rfl⟩
  · simp only [c_law19_Great_L2, Int.lt_irrefl, Go.Ev.exec, Go.Ev.evOpers, Go.Ev.evOper, Go.Ev.item_op, Go.Ev.evOp, Go.Ev.Opnd.ev, Go.Ev.Env.get, Go.Ev.Env.set, Go.Ev.look, Go.Ev.cellsAt, Go.Ev.loadC, Go.Ev.bin_lss, List.length_map, ↓Go.Ev.obind, Go.Ev.it1, ↓reduceIte, List.drop_succ_cons, List.drop_zero, List.head?_cons, Nat.reduceEqDiff, decide_false, Bool.false_eq_true, eq_self]
    exact ⟨_, rfl, rfl, rfl, rfl⟩
theorem law19_Great_ev : callZ (evL T) n_law19_Great [(.agg [(.fsl ((c.lps).map lpC) false), (.fsl ((c.progs).map progC) false), (.v (.int .i64 (c.look))), (.v (.int .i64 (c.fin))), (.v (.int .i64 (c.cap)))])] = some (.v (.bool (greatB c))) := by
  rw [callZ, evL_code ext_law19_Great code_law19_Great]
  by_cases h1 : (c.lps.length : Int) > 12
  · simp only [c_law19_Great, greatB, h1, Go.Ev.runFunc, Go.Ev.exec, Go.Ev.evOpers, Go.Ev.evOper, Go.Ev.item_op, Go.Ev.evOp, Go.Ev.Opnd.ev, Go.Ev.Env.get, Go.Ev.Env.set, Go.Ev.Env.unset, Go.Ev.look, Go.Ev.argVars, Go.Ev.cellsAt, Go.Ev.loadC, Go.Ev.AV.cells, Go.Ev.plains, Go.Ev.AV.plain, Go.Ev.bin_gtr, Go.Ev.resVals, Go.Ev.resVal, Go.Ev.resOf, Go.Ev.kill, Go.Ev.leave, Go.Ev.storeLo, Go.Ev.lo_v, Go.Ev.frz_lo, List.length_map, ↓Go.Ev.obind, ↓reduceIte, List.length_cons, List.length_nil, List.take_nil, List.drop_zero, List.head?_cons, Nat.reduceEqDiff, decide_true, Bool.and_self, Bool.true_or, Bool.false_eq_true, Bool.true_eq_false, and_self, ne_eq, not_false_eq_true, List.cons_ne_nil, Nat.zero_add, eq_self]
  by_cases h2 : (c.progs.length : Int) > 12
  · simp only [c_law19_Great, greatB, h1, h2, Go.Ev.runFunc, Go.Ev.exec, Go.Ev.evOpers, Go.Ev.evOper, Go.Ev.item_op, Go.Ev.evOp, Go.Ev.Opnd.ev, Go.Ev.Env.get, Go.Ev.Env.set, Go.Ev.look, Go.Ev.argVars, Go.Ev.cellsAt, Go.Ev.loadC, Go.Ev.AV.cells, Go.Ev.plains, Go.Ev.AV.plain, Go.Ev.bin_gtr, Go.Ev.resVals, Go.Ev.resVal, Go.Ev.resOf, Go.Ev.kill, Go.Ev.leave, Go.Ev.storeLo, Go.Ev.lo_v, Go.Ev.frz_lo, List.length_map, ↓Go.Ev.obind, ↓reduceIte, List.length_cons, List.length_nil, List.take_nil, List.drop_succ_cons, List.drop_zero, List.head?_cons, Nat.reduceEqDiff, decide_true, decide_false, Bool.and_self, Bool.true_or, Bool.or_true, Bool.false_eq_true, and_self, ne_eq, not_false_eq_true, List.cons_ne_nil, Nat.zero_add, eq_self]
  obtain ⟨⟨y, e, σ⟩, k1, k2⟩ := great_l1 c (by omega)
  obtain ⟨⟨y', e', σ'⟩, m1, m2⟩ := great_l2 c (by omega)
  simp only at k2 m2
  rcases k2 with ⟨k3, rfl, k4, rfl, k5⟩ | ⟨k3, x, _, rfl, k4, rfl, k5⟩
  · rcases m2 with ⟨m3, rfl, m4, rfl⟩ | ⟨m3, x, _, rfl, m4, rfl, m5⟩
    · simp only [c_law19_Great, greatB, h1, h2, k1, k3, k4, k5, m1, m3, m4, lps_lo, progs_lo, Bool.or_self, Go.Ev.runFunc, Go.Ev.exec, Go.Ev.evOpers, Go.Ev.evOper, Go.Ev.item_op, Go.Ev.evOp, Go.Ev.Opnd.ev, Go.Ev.Env.get, Go.Ev.Env.set, Go.Ev.look, Go.Ev.argVars, Go.Ev.cellsAt, Go.Ev.loadC, Go.Ev.AV.cells, Go.Ev.plains, Go.Ev.AV.plain, Go.Ev.bin_gtr, Go.Ev.resVals, Go.Ev.resVal, Go.Ev.resOf, Go.Ev.kill, Go.Ev.leave, Go.Ev.settle, Go.Ev.keep, Go.Ev.varsLo, Go.Ev.marksLo, Go.Ev.storeLo, Go.Ev.lo_v, Go.Ev.lo_fsl, Go.Ev.lo_fptr, Go.Ev.los_nil, Go.Ev.los_cons, Go.Ev.frz_lo, List.length_map, ↓Go.Ev.obind, ↓Go.Ev.itL_itB, ↓reduceIte, List.length_cons, List.length_nil, List.take_nil, List.drop_succ_cons, List.drop_zero, List.head?_cons, Nat.reduceEqDiff, decide_false, Bool.and_self, Bool.not_true, Bool.false_eq_true, and_self, ne_eq, not_false_eq_true, List.cons_ne_nil, Nat.zero_add, eq_self]
    · simp only [c_law19_Great, greatB, h1, h2, k1, k3, k4, k5, m1, m3, m4, m5, lps_lo, progs_lo, Bool.or_true, Go.Ev.runFunc, Go.Ev.exec, Go.Ev.evOpers, Go.Ev.evOper, Go.Ev.item_op, Go.Ev.evOp, Go.Ev.Opnd.ev, Go.Ev.Env.get, Go.Ev.Env.set, Go.Ev.look, Go.Ev.argVars, Go.Ev.cellsAt, Go.Ev.loadC, Go.Ev.AV.cells, Go.Ev.plains, Go.Ev.AV.plain, Go.Ev.bin_gtr, Go.Ev.resVals, Go.Ev.resVal, Go.Ev.resOf, Go.Ev.kill, Go.Ev.leave, Go.Ev.settle, Go.Ev.keep, Go.Ev.varsLo, Go.Ev.marksLo, Go.Ev.storeLo, Go.Ev.lo_v, Go.Ev.lo_fsl, Go.Ev.lo_fptr, Go.Ev.los_nil, Go.Ev.los_cons, Go.Ev.frz_lo, List.length_map, ↓Go.Ev.obind, ↓Go.Ev.itL_itB, ↓reduceIte, List.length_cons, List.length_nil, List.take_nil, List.drop_succ_cons, List.drop_zero, List.head?_cons, Nat.reduceEqDiff, decide_false, Bool.and_self, Bool.or_true, Bool.not_true, Bool.not_false, Bool.false_eq_true, and_self, ne_eq, not_false_eq_true, List.cons_ne_nil, Nat.zero_add, eq_self]
  · simp only [c_law19_Great, greatB, h1, h2, k1, k3, k4, k5, lps_lo, progs_lo, Bool.or_true, Bool.true_or, Go.Ev.runFunc, Go.Ev.exec, Go.Ev.evOpers, Go.Ev.evOper, Go.Ev.item_op, Go.Ev.evOp, Go.Ev.Opnd.ev, Go.Ev.Env.get, Go.Ev.Env.set, Go.Ev.look, Go.Ev.argVars, Go.Ev.cellsAt, Go.Ev.loadC, Go.Ev.AV.cells, Go.Ev.plains, Go.Ev.AV.plain, Go.Ev.bin_gtr, Go.Ev.resVals, Go.Ev.resVal, Go.Ev.resOf, Go.Ev.kill, Go.Ev.leave, Go.Ev.settle, Go.Ev.keep, Go.Ev.varsLo, Go.Ev.marksLo, Go.Ev.storeLo, Go.Ev.lo_v, Go.Ev.lo_fsl, Go.Ev.lo_fptr, Go.Ev.los_nil, Go.Ev.los_cons, Go.Ev.frz_lo, List.length_map, ↓Go.Ev.obind, ↓Go.Ev.itL_itB, ↓reduceIte, List.length_cons, List.length_nil, List.take_nil, List.drop_succ_cons, List.drop_zero, List.head?_cons, Nat.reduceEqDiff, decide_false, Bool.and_self, Bool.true_or, Bool.or_true, Bool.not_false, Bool.false_eq_true, and_self, ne_eq, not_false_eq_true, List.cons_ne_nil, Nat.zero_add, eq_self]
theorem great_ok (h : greatB c = false) : CfgOk c ∧ c.lps.length ≤ 12 ∧ c.progs.length ≤ 12 ∧ (∀ l ∈ c.lps, l.length ≤ 12) ∧ ∀ p ∈ c.progs, p.length ≤ 30 := by
  simp only [greatB, Bool.or_eq_false_iff, decide_eq_false_iff_not, Bool.not_eq_false', List.all_eq_true] at h
  obtain ⟨h1, h2, h3, h4⟩ := h
  have h5 : ∀ l ∈ c.lps, l.length ≤ 12 := fun l hl => by have := h3 l hl; simp [l12] at this; omega
  have h6 : ∀ p ∈ c.progs, p.length ≤ 30 := fun p hp => by have := h4 p hp; simp [l30] at this; omega
  exact ⟨⟨by omega, by omega, fun p hp => by have := h6 p hp; omega, fun l hl => by have := h5 l hl; omega⟩, by omega, by omega, h5, h6⟩
/-! ### Lookahead -/
def minStep (a : Int) (x : OpI) : Int := if x.code = 2 then (if x.c < a then x.c else a) else a
def minProg (a : Int) (p : List OpI) : Int := p.foldl minStep a
def withLook (c : Cfg) (n : Int) : Cfg := { c with look := n }
def lookZ (c : Cfg) : Int := if cfgZ (withLook c 1) = 0 then c.progs.foldl minProg 1099511627776 else 0
theorem look_inner (a : Int) (p : List OpI) (i : Int) (hl : p.length < 2 ^ 62) :
    ∃ y, itB (exec (evL T) itL none c_config_Lookahead_L2) (Ev.settle [3, 13, 14, 15, 19, 20, 21] true 1) ⟨[(3, (.v (.int .i64 (a)))), (13, (.fsl ((c.progs).map progC) false)), (14, (.v (.int .i64 (c.progs.length)))), (15, (.v (.int .i64 (i)))), (19, (.fsl ((p).map OpI.r) false)), (20, (.v (.int .i64 (p.length)))), (21, (.v (.int .i64 (0))))], []⟩ [.row 5 [[(.fsl ((c.lps).map lpC) false), (.fsl ((c.progs).map progC) false), (.v (.int .i64 (1))), (.v (.int .i64 (c.fin))), (.v (.int .i64 (c.cap)))]] 0] = some y ∧
      y.1 = .exit 2 ∧ y.2.1.marks = [] ∧ y.2.2 = [.row 5 [[(.fsl ((c.lps).map lpC) false), (.fsl ((c.progs).map progC) false), (.v (.int .i64 (1))), (.v (.int .i64 (c.fin))), (.v (.int .i64 (c.cap)))]] 0] ∧ Ev.look y.2.1.vars 3 = some (.v (.int .i64 (minProg a p))) ∧ Ev.look y.2.1.vars 13 = some (.fsl ((c.progs).map progC) false) ∧ Ev.look y.2.1.vars 14 = some (.v (.int .i64 (c.progs.length))) ∧ Ev.look y.2.1.vars 15 = some (.v (.int .i64 (i))) := by
  have := itB_for (f := exec (evL T) itL none c_config_Lookahead_L2) (s := Ev.settle [3, 13, 14, 15, 19, 20, 21] true 1) (α := Int) (fun j a => ⟨[(3, (.v (.int .i64 (a)))), (13, (.fsl ((c.progs).map progC) false)), (14, (.v (.int .i64 (c.progs.length)))), (15, (.v (.int .i64 (i)))), (19, (.fsl ((p).map OpI.r) false)), (20, (.v (.int .i64 (p.length)))), (21, (.v (.int .i64 ((j : Int)))))], []⟩) (fun _ _ => [.row 5 [[(.fsl ((c.lps).map lpC) false), (.fsl ((c.progs).map progC) false), (.v (.int .i64 (1))), (.v (.int .i64 (c.fin))), (.v (.int .i64 (c.cap)))]] 0])
    (fun j r => r = minProg a (p.take j)) p.length (fun y => y.1 = .exit 2 ∧ y.2.1.marks = [] ∧ y.2.2 = [.row 5 [[(.fsl ((c.lps).map lpC) false), (.fsl ((c.progs).map progC) false), (.v (.int .i64 (1))), (.v (.int .i64 (c.fin))), (.v (.int .i64 (c.cap)))]] 0] ∧ Ev.look y.2.1.vars 3 = some (.v (.int .i64 (minProg a p))) ∧ Ev.look y.2.1.vars 13 = some (.fsl ((c.progs).map progC) false) ∧ Ev.look y.2.1.vars 14 = some (.v (.int .i64 (c.progs.length))) ∧ Ev.look y.2.1.vars 15 = some (.v (.int .i64 (i)))) ?_ ?_ 0 a (Nat.zero_le _) rfl
  · exact this
  · rintro j r hj hr
    obtain ⟨x, hx⟩ : ∃ x, p[j]? = some x := ⟨_, List.getElem?_eq_getElem hj⟩
    have hj' : (j : Int) < (p.length : Int) := by omega
    have hw : IntKind.i64.wrap ((j : Int) + 1) = ((j + 1 : Nat) : Int) := by rw [w64_small (by omega) (by omega)]; simp
    refine .inl ⟨minStep r x, ?_, by rw [hr, minProg, minProg, take_next hx, List.foldl_append]; rfl⟩
    by_cases h1 : x.code = 2 <;> simp only [c_config_Lookahead_L2, Int.natCast_nonneg, Int.toNat_natCast, List.getElem?_map, Option.map_some, hx, hj', hw, h1, minStep, lps_lo, progs_lo, prog_lo, OpI.r, Go.Ev.exec, Go.Ev.evOpers, Go.Ev.evOper, Go.Ev.item_op, Go.Ev.evOp, Go.Ev.Opnd.ev, Go.Ev.Env.get, Go.Ev.Env.set, Go.Ev.look, Go.Ev.cellsAt, Go.Ev.loadC, Go.Ev.AV.cells, Go.Ev.plains, Go.Ev.AV.plain, Go.Ev.bin_add, Go.Ev.bin_eql, Go.Ev.bin_lss, Go.Ev.settle, Go.Ev.keep, Go.Ev.varsLo, Go.Ev.marksLo, Go.Ev.storeLo, Go.Ev.SObj.lo, Go.Ev.lo_v, Go.Ev.lo_fsl, Go.Ev.los_nil, Go.Ev.los_cons, Go.Ev.loss_nil, Go.Ev.loss_cons, ↓Go.Ev.obind, Go.Ev.it1, ↓reduceIte, List.length_cons, List.length_nil, List.getElem?_cons_zero, List.getElem?_cons_succ, List.take_succ_cons, List.take_zero, List.take_nil, List.drop_succ_cons, List.drop_zero, List.drop_nil, List.cons_append, List.nil_append, List.append_nil, List.set_cons_zero, List.set_cons_succ, List.head?_cons, Nat.reduceAdd, Nat.reduceEqDiff, decide_true, decide_false, Bool.and_self, Bool.false_eq_true, and_self, ne_eq, not_false_eq_true, List.cons_ne_nil, Nat.zero_add, Nat.add_zero, Nat.le_refl, eq_self]
  · rintro r hr
    rw [List.take_length] at hr
    simp only [c_config_Lookahead_L2, Int.lt_irrefl, Go.Ev.exec, Go.Ev.evOpers, Go.Ev.evOper, Go.Ev.item_op, Go.Ev.evOp, Go.Ev.Opnd.ev, Go.Ev.Env.get, Go.Ev.Env.set, Go.Ev.look, Go.Ev.bin_lss, ↓Go.Ev.obind, Go.Ev.it1, ↓reduceIte, Nat.reduceEqDiff, decide_false, Bool.false_eq_true, eq_self]
    exact ⟨_, rfl, rfl, rfl, rfl, by rw [← hr]; rfl, rfl, rfl, rfl⟩
theorem look_outer (h : CfgOk c) :
    ∃ y, itB (exec (evL T) itL none c_config_Lookahead_L1) (Ev.settle [3, 13, 14, 15] true 1) ⟨[(3, (.v (.int .i64 (1099511627776)))), (13, (.fsl ((c.progs).map progC) false)), (14, (.v (.int .i64 (c.progs.length)))), (15, (.v (.int .i64 (0))))], []⟩ [.row 5 [[(.fsl ((c.lps).map lpC) false), (.fsl ((c.progs).map progC) false), (.v (.int .i64 (1))), (.v (.int .i64 (c.fin))), (.v (.int .i64 (c.cap)))]] 0] = some y ∧
      y.1 = .exit 0 ∧ y.2.1.marks = [] ∧ y.2.2 = [.row 5 [[(.fsl ((c.lps).map lpC) false), (.fsl ((c.progs).map progC) false), (.v (.int .i64 (1))), (.v (.int .i64 (c.fin))), (.v (.int .i64 (c.cap)))]] 0] ∧ Ev.look y.2.1.vars 3 = some (.v (.int .i64 (c.progs.foldl minProg 1099511627776))) := by
  have hlp := h.progs
  have := itB_for (f := exec (evL T) itL none c_config_Lookahead_L1) (s := Ev.settle [3, 13, 14, 15] true 1) (α := Int) (fun j a => ⟨[(3, (.v (.int .i64 (a)))), (13, (.fsl ((c.progs).map progC) false)), (14, (.v (.int .i64 (c.progs.length)))), (15, (.v (.int .i64 ((j : Int)))))], []⟩) (fun _ _ => [.row 5 [[(.fsl ((c.lps).map lpC) false), (.fsl ((c.progs).map progC) false), (.v (.int .i64 (1))), (.v (.int .i64 (c.fin))), (.v (.int .i64 (c.cap)))]] 0])
    (fun j r => r = (c.progs.take j).foldl minProg 1099511627776) c.progs.length (fun y => y.1 = .exit 0 ∧ y.2.1.marks = [] ∧ y.2.2 = [.row 5 [[(.fsl ((c.lps).map lpC) false), (.fsl ((c.progs).map progC) false), (.v (.int .i64 (1))), (.v (.int .i64 (c.fin))), (.v (.int .i64 (c.cap)))]] 0] ∧ Ev.look y.2.1.vars 3 = some (.v (.int .i64 (c.progs.foldl minProg 1099511627776)))) ?_ ?_ 0 1099511627776 (Nat.zero_le _) rfl
  · exact this
  · rintro j r hj hr
    obtain ⟨p, hx⟩ : ∃ x, c.progs[j]? = some x := ⟨_, List.getElem?_eq_getElem hj⟩
    have hj' : (j : Int) < (c.progs.length : Int) := by omega
    have hw : IntKind.i64.wrap ((j : Int) + 1) = ((j + 1 : Nat) : Int) := by rw [w64_small (by omega) (by omega)]; simp
    obtain ⟨⟨y, e, σ⟩, k1, k2, k3, k4, k5, k6, k7, k8⟩ := look_inner c r p j (h.prog p (List.mem_of_getElem? hx))
    simp only at k2 k3 k4 k5 k6 k7 k8
    subst k2; subst k4
    refine .inl ⟨minProg r p, ?_, by rw [hr, take_next hx, List.foldl_append]; rfl⟩
    simp only [c_config_Lookahead_L1, Int.natCast_nonneg, Int.toNat_natCast, List.getElem?_map, Option.map_some, hx, hj', hw, k1, k3, k5, k6, k7, k8, lps_lo, progs_lo, prog_lo, progC, Go.Ev.exec, Go.Ev.evOpers, Go.Ev.evOper, Go.Ev.item_op, Go.Ev.evOp, Go.Ev.Opnd.ev, Go.Ev.Env.get, Go.Ev.Env.set, Go.Ev.look, Go.Ev.cellsAt, Go.Ev.loadC, Go.Ev.bin_add, Go.Ev.bin_lss, Go.Ev.settle, Go.Ev.keep, Go.Ev.varsLo, Go.Ev.marksLo, Go.Ev.storeLo, Go.Ev.SObj.lo, Go.Ev.lo_v, Go.Ev.lo_fsl, Go.Ev.los_nil, Go.Ev.los_cons, Go.Ev.loss_nil, Go.Ev.loss_cons, List.length_map, ↓Go.Ev.obind, ↓Go.Ev.itL_itB, Go.Ev.it1, ↓reduceIte, List.length_cons, List.length_nil, List.take_succ_cons, List.take_nil, List.head?_cons, Nat.reduceEqDiff, decide_true, Bool.and_self, Bool.false_eq_true, and_self, Nat.zero_add, eq_self]
  · rintro r hr
    rw [List.take_length] at hr
    simp only [c_config_Lookahead_L1, Int.lt_irrefl, Go.Ev.exec, Go.Ev.evOpers, Go.Ev.evOper, Go.Ev.item_op, Go.Ev.evOp, Go.Ev.Opnd.ev, Go.Ev.Env.get, Go.Ev.Env.set, Go.Ev.look, Go.Ev.bin_lss, ↓Go.Ev.obind, Go.Ev.it1, ↓reduceIte, Nat.reduceEqDiff, decide_false, Bool.false_eq_true, eq_self]
    exact ⟨_, rfl, rfl, rfl, rfl, by rw [← hr]; rfl⟩
theorem config_Lookahead_ev (h : CfgOk c) : callZ (evL T) n_config_Lookahead [(.agg [(.fsl ((c.lps).map lpC) false), (.fsl ((c.progs).map progC) false), (.v (.int .i64 (c.look))), (.v (.int .i64 (c.fin))), (.v (.int .i64 (c.cap)))])] = some (.v (.int .i64 (lookZ c))) := by
  have h1 : CfgOk (withLook c 1) := ⟨h.lps, h.progs, h.prog, h.lp⟩
  have v := config_Check_ev (withLook c 1) h1
  obtain ⟨⟨y, e, σ⟩, k1, k2, k3, k4, k5⟩ := look_outer c h
  simp only at k2 k3 k4 k5
  subst k2; subst k4
  unfold lookZ
  simp only [withLook] at v ⊢
  rw [callZ, evL_code ext_config_Lookahead code_config_Lookahead]
  by_cases hz : cfgZ { c with look := 1 } = 0
  · rw [hz] at v
    simp only [c_config_Lookahead, v, hz, k1, k3, k5, lps_lo, progs_lo, Go.Ev.runFunc, Go.Ev.exec, Go.Ev.evOpers, Go.Ev.evOper, Go.Ev.item_op, Go.Ev.item_P, Go.Ev.evOp, Go.Ev.evs, Go.Ev.Opnd.ev, Go.Ev.Env.get, Go.Ev.Env.set, Go.Ev.look, Go.Ev.argVars, Go.Ev.cellsAt, Go.Ev.loadC, Go.Ev.AV.cells, Go.Ev.AV.uc, Go.Ev.plains, Go.Ev.AV.plain, Go.Ev.bin_neq, Go.Ev.resVals, Go.Ev.resVal, Go.Ev.resOf, Go.Ev.kill, Go.Ev.leave, Go.Ev.settle, Go.Ev.keep, Go.Ev.varsLo, Go.Ev.marksLo, Go.Ev.storeLo, Go.Ev.SObj.lo, Go.Ev.lo_v, Go.Ev.lo_agg, Go.Ev.lo_fsl, Go.Ev.los_nil, Go.Ev.los_cons, Go.Ev.loss_nil, Go.Ev.loss_cons, Go.Ev.frz_lo, List.length_map, ↓Go.Ev.obind, ↓Go.Ev.itL_itB, ↓reduceIte, List.length_cons, List.length_nil, List.getElem?_cons_zero, List.take_succ_cons, List.take_zero, List.take_nil, List.drop_succ_cons, List.drop_zero, List.cons_append, List.nil_append, List.set_cons_zero, List.head?_cons, Nat.reduceAdd, Nat.reduceEqDiff, Nat.reduceLeDiff, decide_false, Bool.and_self, Bool.false_eq_true, and_self, ne_eq, not_false_eq_true, not_true_eq_false, List.cons_ne_nil, Nat.zero_add, Nat.le_refl, eq_self]
  · simp only [c_config_Lookahead, v, hz, lps_lo, progs_lo, Go.Ev.runFunc, Go.Ev.exec, Go.Ev.evOpers, Go.Ev.evOper, Go.Ev.item_op, Go.Ev.item_P, Go.Ev.evOp, Go.Ev.evs, Go.Ev.Opnd.ev, Go.Ev.Env.get, Go.Ev.Env.set, Go.Ev.look, Go.Ev.argVars, Go.Ev.cellsAt, Go.Ev.loadC, Go.Ev.AV.cells, Go.Ev.AV.uc, Go.Ev.plains, Go.Ev.AV.plain, Go.Ev.bin_neq, Go.Ev.resVals, Go.Ev.resVal, Go.Ev.resOf, Go.Ev.kill, Go.Ev.leave, Go.Ev.storeLo, Go.Ev.lo_v, Go.Ev.lo_agg, Go.Ev.lo_fsl, Go.Ev.los_nil, Go.Ev.los_cons, Go.Ev.frz_lo, ↓Go.Ev.obind, ↓reduceIte, List.length_cons, List.length_nil, List.getElem?_cons_zero, List.take_succ_cons, List.take_zero, List.take_nil, List.drop_succ_cons, List.drop_zero, List.cons_append, List.nil_append, List.set_cons_zero, Nat.reduceAdd, Nat.reduceEqDiff, Nat.reduceLeDiff, decide_true, Bool.and_self, and_self, ne_eq, not_false_eq_true, List.cons_ne_nil, Nat.zero_add, Nat.le_refl, eq_self]
end
end Go.Proofs.Ytlcakphdkpdenaa.K

namespace Go.Proofs.Ytlcakphdkpdenaa.K
open Go.Ev
set_option linter.unusedSimpArgs false
set_option linter.unusedVariables false
set_option maxRecDepth 10000
def firstZ {τ : Type} (f : τ → Int) (l : List τ) : Int := match l.find? (fun x => !decide (f x = 0)) with
  | some x => f x
  | none => 0
theorem firstZ_all {τ : Type} {f : τ → Int} {l : List τ} (h : l.all (fun x => decide (f x = 0)) = true) : firstZ f l = 0 := by
  unfold firstZ
  have : l.find? (fun x => !decide (f x = 0)) = none := by
    rw [List.find?_eq_none]; intro x hx; rw [List.all_eq_true] at h; simp [of_decide_eq_true (h x hx)]
  rw [this]
theorem firstZ_some {τ : Type} {f : τ → Int} {l : List τ} {x : τ} (h : l.find? (fun x => !decide (f x = 0)) = some x) : firstZ f l = f x := by unfold firstZ; rw [h]
theorem firstZ_zero {τ : Type} {f : τ → Int} {l : List τ} : firstZ f l = 0 ↔ ∀ x ∈ l, f x = 0 := by
  cases h : l.find? (fun x => !decide (f x = 0)) with
  | none =>
    rw [List.find?_eq_none] at h
    have h1 : ∀ x ∈ l, f x = 0 := fun x hx => by simpa using h x hx
    exact ⟨fun _ => h1, fun _ => firstZ_all (by rw [List.all_eq_true]; intro x hx; simp [h1 x hx])⟩
  | some x =>
    have h1 := List.find?_some h
    have h2 := List.mem_of_find?_eq_some h
    rw [firstZ_some h]
    exact ⟨fun k => by simp [k] at h1, fun k => k x h2⟩
section
variable (c : Cfg)
def len8 (l : List Start) : Bool := !decide ((l.length : Int) > 8)
def rsizesB (c : Cfg) : Bool := decide (1 ≤ c.lps.length ∧ c.lps.length ≤ 8 ∧ c.progs.length ≤ 8) && (c.lps.all len8 && decide (1 ≤ c.cap ∧ c.cap ≤ 64 ∧ 0 ≤ c.fin ∧ c.fin ≤ 1152921504606846976))
theorem ref19_sizes_ev : callZ (evL T) n_ref19_sizes [(.agg [(.fsl ((c.lps).map lpC) false), (.fsl ((c.progs).map progC) false), (.v (.int .i64 (c.look))), (.v (.int .i64 (c.fin))), (.v (.int .i64 (c.cap)))])] = some (.v (.bool (rsizesB c))) := by
  unfold rsizesB
  rw [callZ, evL_code ext_ref19_sizes code_ref19_sizes]
  by_cases h1 : (c.lps.length : Int) < 1
  · have : ¬ (1 ≤ c.lps.length ∧ c.lps.length ≤ 8 ∧ c.progs.length ≤ 8) := by omega
    simp only [c_ref19_sizes, h1, this, decide_false, Bool.false_and, Go.Ev.runFunc, Go.Ev.exec, Go.Ev.evOpers, Go.Ev.evOper, Go.Ev.item_op, Go.Ev.evOp, Go.Ev.Opnd.ev, Go.Ev.Env.get, Go.Ev.Env.set, Go.Ev.Env.unset, Go.Ev.look, Go.Ev.argVars, Go.Ev.cellsAt, Go.Ev.loadC, Go.Ev.AV.cells, Go.Ev.plains, Go.Ev.AV.plain, Go.Ev.bin_lss, Go.Ev.resVals, Go.Ev.resVal, Go.Ev.resOf, Go.Ev.kill, Go.Ev.leave, Go.Ev.storeLo, Go.Ev.lo_v, Go.Ev.frz_lo, List.length_map, ↓Go.Ev.obind, ↓reduceIte, List.length_cons, List.length_nil, List.take_nil, List.drop_zero, List.head?_cons, Nat.reduceEqDiff, decide_true, decide_false, Bool.and_self, Bool.false_eq_true, Bool.true_eq_false, and_self, ne_eq, not_false_eq_true, List.cons_ne_nil, Nat.zero_add, eq_self, Bool.false_and]
  by_cases h2 : (c.lps.length : Int) > 8
  · have : ¬ (1 ≤ c.lps.length ∧ c.lps.length ≤ 8 ∧ c.progs.length ≤ 8) := by omega
    simp only [c_ref19_sizes, h1, h2, this, decide_false, Bool.false_and, Go.Ev.runFunc, Go.Ev.exec, Go.Ev.evOpers, Go.Ev.evOper, Go.Ev.item_op, Go.Ev.evOp, Go.Ev.Opnd.ev, Go.Ev.Env.get, Go.Ev.Env.set, Go.Ev.Env.unset, Go.Ev.look, Go.Ev.argVars, Go.Ev.cellsAt, Go.Ev.loadC, Go.Ev.AV.cells, Go.Ev.plains, Go.Ev.AV.plain, Go.Ev.bin_lss, Go.Ev.bin_gtr, Go.Ev.resVals, Go.Ev.resVal, Go.Ev.resOf, Go.Ev.kill, Go.Ev.leave, Go.Ev.storeLo, Go.Ev.lo_v, Go.Ev.frz_lo, List.length_map, ↓Go.Ev.obind, ↓reduceIte, List.length_cons, List.length_nil, List.take_nil, List.drop_zero, List.head?_cons, Nat.reduceEqDiff, decide_true, decide_false, Bool.and_self, Bool.false_eq_true, Bool.true_eq_false, and_self, ne_eq, not_false_eq_true, List.cons_ne_nil, Nat.zero_add, eq_self, Bool.false_and]
  by_cases h3 : (c.progs.length : Int) > 8
  · have : ¬ (1 ≤ c.lps.length ∧ c.lps.length ≤ 8 ∧ c.progs.length ≤ 8) := by omega
    simp only [c_ref19_sizes, h1, h2, h3, this, decide_false, Bool.false_and, Go.Ev.runFunc, Go.Ev.exec, Go.Ev.evOpers, Go.Ev.evOper, Go.Ev.item_op, Go.Ev.evOp, Go.Ev.Opnd.ev, Go.Ev.Env.get, Go.Ev.Env.set, Go.Ev.look, Go.Ev.argVars, Go.Ev.cellsAt, Go.Ev.loadC, Go.Ev.AV.cells, Go.Ev.plains, Go.Ev.AV.plain, Go.Ev.bin_lss, Go.Ev.bin_gtr, Go.Ev.resVals, Go.Ev.resVal, Go.Ev.resOf, Go.Ev.kill, Go.Ev.leave, Go.Ev.storeLo, Go.Ev.lo_v, Go.Ev.frz_lo, List.length_map, ↓Go.Ev.obind, ↓reduceIte, List.length_cons, List.length_nil, List.take_nil, List.drop_succ_cons, List.drop_zero, List.head?_cons, Nat.reduceEqDiff, decide_true, decide_false, Bool.and_self, Bool.false_eq_true, and_self, ne_eq, not_false_eq_true, List.cons_ne_nil, Nat.zero_add, eq_self, Bool.false_and]
  have h4 : (1 ≤ c.lps.length ∧ c.lps.length ≤ 8 ∧ c.progs.length ≤ 8) := by omega
  have hL : ∃ y, itB (exec (evL T) itL none c_ref19_sizes_L1) (Ev.settle [1, 3] true 0) ⟨[(1, (.fptr [(.fsl ((c.lps).map lpC) false), (.fsl ((c.progs).map progC) false), (.v (.int .i64 (c.look))), (.v (.int .i64 (c.fin))), (.v (.int .i64 (c.cap)))])), (3, (.v (.int .i64 (0))))], []⟩ [] = some y ∧ (c.lps.all len8 = true ∧ (y.1 = .exit 0 ∧ y.2.1.marks = [] ∧ y.2.2 = [] ∧ Ev.look y.2.1.vars 1 = some (.fptr [(.fsl ((c.lps).map lpC) false), (.fsl ((c.progs).map progC) false), (.v (.int .i64 (c.look))), (.v (.int .i64 (c.fin))), (.v (.int .i64 (c.cap)))])) ∨
      c.lps.all len8 = false ∧ ∃ x, c.lps.find? (fun x => !len8 x) = some x ∧ (y.1 = .ret ∧ y.2.1.marks = [] ∧ y.2.2 = [] ∧ Ev.look y.2.1.vars 2 = some (.v (.bool (false))))) := by
    refine itB_find c.lps (fun i => ⟨[(1, (.fptr [(.fsl ((c.lps).map lpC) false), (.fsl ((c.progs).map progC) false), (.v (.int .i64 (c.look))), (.v (.int .i64 (c.fin))), (.v (.int .i64 (c.cap)))])), (3, (.v (.int .i64 (i))))], []⟩) [] len8 _ (fun _ y => _) ?_ ?_ ?_
    · intro i x hi hx hp
      have hi' : (i : Int) < (c.lps.length : Int) := by omega
      have hw : IntKind.i64.wrap ((i : Int) + 1) = ((i + 1 : Nat) : Int) := by rw [w64_small (by omega) (by omega)]; simp
      have h1 : ¬ (x.length : Int) > 8 := by simpa [len8] using hp
      simp only [c_ref19_sizes_L1, Int.natCast_nonneg, Int.toNat_natCast, List.getElem?_map, Option.map_some, hx, hi', hw, h1, lps_lo, progs_lo, lpC, Go.Ev.exec, Go.Ev.evOpers, Go.Ev.evOper, Go.Ev.item_op, Go.Ev.evOp, Go.Ev.Opnd.ev, Go.Ev.Env.get, Go.Ev.Env.set, Go.Ev.look, Go.Ev.cellsAt, Go.Ev.loadC, Go.Ev.bin_add, Go.Ev.bin_lss, Go.Ev.bin_gtr, Go.Ev.settle, Go.Ev.keep, Go.Ev.varsLo, Go.Ev.marksLo, Go.Ev.storeLo, Go.Ev.lo_v, Go.Ev.lo_fsl, Go.Ev.lo_fptr, Go.Ev.los_nil, Go.Ev.los_cons, List.length_map, ↓Go.Ev.obind, Go.Ev.it1, ↓reduceIte, List.length_cons, List.length_nil, List.take_nil, List.drop_zero, List.head?_cons, Nat.reduceEqDiff, decide_true, decide_false, Bool.and_self, Bool.false_eq_true, and_self, Nat.zero_add, eq_self]
    · intro i x hi hx hp
      have hi' : (i : Int) < (c.lps.length : Int) := by omega
      have h1 : (x.length : Int) > 8 := by simpa [len8] using hp
      simp only [c_ref19_sizes_L1, Int.natCast_nonneg, Int.toNat_natCast, List.getElem?_map, Option.map_some, hx, hi', h1, lpC, Go.Ev.exec, Go.Ev.evOpers, Go.Ev.evOper, Go.Ev.item_op, Go.Ev.evOp, Go.Ev.Opnd.ev, Go.Ev.Env.get, Go.Ev.Env.set, Go.Ev.look, Go.Ev.cellsAt, Go.Ev.loadC, Go.Ev.bin_lss, Go.Ev.bin_gtr, List.length_map, ↓Go.Ev.obind, Go.Ev.it1, ↓reduceIte, List.length_cons, List.length_nil, List.drop_zero, List.head?_cons, Nat.reduceEqDiff, decide_true, Bool.false_eq_true, Nat.zero_add, eq_self]
      exact ⟨_, rfl, rfl, rfl, rfl, rfl⟩
    · simp only [c_ref19_sizes_L1, Int.lt_irrefl, Go.Ev.exec, Go.Ev.evOpers, Go.Ev.evOper, Go.Ev.item_op, Go.Ev.evOp, Go.Ev.Opnd.ev, Go.Ev.Env.get, Go.Ev.Env.set, Go.Ev.look, Go.Ev.cellsAt, Go.Ev.loadC, Go.Ev.bin_lss, List.length_map, ↓Go.Ev.obind, Go.Ev.it1, ↓reduceIte, List.drop_zero, List.head?_cons, Nat.reduceEqDiff, decide_false, Bool.false_eq_true, eq_self]
      exact ⟨_, rfl, rfl, rfl, rfl, rfl⟩
  obtain ⟨⟨y, e, σ⟩, k1, k2⟩ := hL
  simp only at k2
  rcases k2 with ⟨k3, rfl, k4, rfl, k5⟩ | ⟨k3, x, _, rfl, k4, rfl, k5⟩
  · by_cases g1 : c.cap ≥ 1
    case neg =>
      have : ¬ (1 ≤ c.cap ∧ c.cap ≤ 64 ∧ 0 ≤ c.fin ∧ c.fin ≤ 1152921504606846976) := by omega
      simp only [c_ref19_sizes, h1, h2, h3, h4, k1, k3, k4, k5, g1, lps_lo, progs_lo, decide_false, Bool.and_false, Go.Ev.runFunc, Go.Ev.exec, Go.Ev.evOpers, Go.Ev.evOper, Go.Ev.item_op, Go.Ev.evOp, Go.Ev.Opnd.ev, Go.Ev.Env.get, Go.Ev.Env.set, Go.Ev.Env.unset, Go.Ev.look, Go.Ev.argVars, Go.Ev.cellsAt, Go.Ev.loadC, Go.Ev.AV.cells, Go.Ev.plains, Go.Ev.AV.plain, Go.Ev.bin_lss, Go.Ev.bin_gtr, Go.Ev.bin_geq, Go.Ev.resVals, Go.Ev.resVal, Go.Ev.resOf, Go.Ev.kill, Go.Ev.leave, Go.Ev.settle, Go.Ev.keep, Go.Ev.varsLo, Go.Ev.marksLo, Go.Ev.storeLo, Go.Ev.lo_v, Go.Ev.lo_fsl, Go.Ev.lo_fptr, Go.Ev.los_nil, Go.Ev.los_cons, Go.Ev.frz_lo, List.length_map, ↓Go.Ev.obind, ↓Go.Ev.itL_itB, ↓reduceIte, List.length_cons, List.length_nil, List.take_nil, List.drop_succ_cons, List.drop_zero, List.head?_cons, Nat.reduceEqDiff, decide_true, decide_false, Bool.and_self, Bool.false_eq_true, and_self, ne_eq, not_false_eq_true, List.cons_ne_nil, Nat.zero_add, eq_self, Bool.and_false, false_and]
    by_cases g2 : c.cap ≤ 64
    case neg =>
      have : ¬ (1 ≤ c.cap ∧ c.cap ≤ 64 ∧ 0 ≤ c.fin ∧ c.fin ≤ 1152921504606846976) := by omega
      simp only [c_ref19_sizes, h1, h2, h3, h4, k1, k3, k4, k5, g1, g2, lps_lo, progs_lo, decide_false, Bool.and_false, Go.Ev.runFunc, Go.Ev.exec, Go.Ev.evOpers, Go.Ev.evOper, Go.Ev.item_op, Go.Ev.evOp, Go.Ev.Opnd.ev, Go.Ev.Env.get, Go.Ev.Env.set, Go.Ev.Env.unset, Go.Ev.look, Go.Ev.argVars, Go.Ev.cellsAt, Go.Ev.loadC, Go.Ev.AV.cells, Go.Ev.plains, Go.Ev.AV.plain, Go.Ev.bin_lss, Go.Ev.bin_leq, Go.Ev.bin_gtr, Go.Ev.bin_geq, Go.Ev.resVals, Go.Ev.resVal, Go.Ev.resOf, Go.Ev.kill, Go.Ev.leave, Go.Ev.settle, Go.Ev.keep, Go.Ev.varsLo, Go.Ev.marksLo, Go.Ev.storeLo, Go.Ev.lo_v, Go.Ev.lo_fsl, Go.Ev.lo_fptr, Go.Ev.los_nil, Go.Ev.los_cons, Go.Ev.frz_lo, List.length_map, ↓Go.Ev.obind, ↓Go.Ev.itL_itB, ↓reduceIte, List.length_cons, List.length_nil, List.take_nil, List.drop_succ_cons, List.drop_zero, List.head?_cons, Nat.reduceEqDiff, decide_true, decide_false, Bool.and_self, Bool.false_eq_true, and_self, ne_eq, not_false_eq_true, List.cons_ne_nil, Nat.zero_add, eq_self, Bool.and_false, false_and, and_false]
    by_cases g3 : c.fin ≥ 0
    case neg =>
      have : ¬ (1 ≤ c.cap ∧ c.cap ≤ 64 ∧ 0 ≤ c.fin ∧ c.fin ≤ 1152921504606846976) := by omega
      simp only [c_ref19_sizes, h1, h2, h3, h4, k1, k3, k4, k5, g1, g2, g3, lps_lo, progs_lo, decide_false, Bool.and_false, Go.Ev.runFunc, Go.Ev.exec, Go.Ev.evOpers, Go.Ev.evOper, Go.Ev.item_op, Go.Ev.evOp, Go.Ev.Opnd.ev, Go.Ev.Env.get, Go.Ev.Env.set, Go.Ev.Env.unset, Go.Ev.look, Go.Ev.argVars, Go.Ev.cellsAt, Go.Ev.loadC, Go.Ev.AV.cells, Go.Ev.plains, Go.Ev.AV.plain, Go.Ev.bin_lss, Go.Ev.bin_leq, Go.Ev.bin_gtr, Go.Ev.bin_geq, Go.Ev.resVals, Go.Ev.resVal, Go.Ev.resOf, Go.Ev.kill, Go.Ev.leave, Go.Ev.settle, Go.Ev.keep, Go.Ev.varsLo, Go.Ev.marksLo, Go.Ev.storeLo, Go.Ev.lo_v, Go.Ev.lo_fsl, Go.Ev.lo_fptr, Go.Ev.los_nil, Go.Ev.los_cons, Go.Ev.frz_lo, List.length_map, ↓Go.Ev.obind, ↓Go.Ev.itL_itB, ↓reduceIte, List.length_cons, List.length_nil, List.take_nil, List.drop_succ_cons, List.drop_zero, List.head?_cons, Nat.reduceEqDiff, decide_true, decide_false, Bool.and_self, Bool.false_eq_true, and_self, ne_eq, not_false_eq_true, List.cons_ne_nil, Nat.zero_add, eq_self, Bool.and_false, false_and, and_false]
    by_cases g4 : c.fin ≤ 1152921504606846976
    case neg =>
      have : ¬ (1 ≤ c.cap ∧ c.cap ≤ 64 ∧ 0 ≤ c.fin ∧ c.fin ≤ 1152921504606846976) := by omega
      simp only [c_ref19_sizes, h1, h2, h3, h4, k1, k3, k4, k5, g1, g2, g3, g4, lps_lo, progs_lo, decide_false, Bool.and_false, Go.Ev.runFunc, Go.Ev.exec, Go.Ev.evOpers, Go.Ev.evOper, Go.Ev.item_op, Go.Ev.evOp, Go.Ev.Opnd.ev, Go.Ev.Env.get, Go.Ev.Env.set, Go.Ev.look, Go.Ev.argVars, Go.Ev.cellsAt, Go.Ev.loadC, Go.Ev.AV.cells, Go.Ev.plains, Go.Ev.AV.plain, Go.Ev.bin_lss, Go.Ev.bin_leq, Go.Ev.bin_gtr, Go.Ev.bin_geq, Go.Ev.resVals, Go.Ev.resVal, Go.Ev.resOf, Go.Ev.kill, Go.Ev.leave, Go.Ev.settle, Go.Ev.keep, Go.Ev.varsLo, Go.Ev.marksLo, Go.Ev.storeLo, Go.Ev.lo_v, Go.Ev.lo_fsl, Go.Ev.lo_fptr, Go.Ev.los_nil, Go.Ev.los_cons, Go.Ev.frz_lo, List.length_map, ↓Go.Ev.obind, ↓Go.Ev.itL_itB, ↓reduceIte, List.length_cons, List.length_nil, List.take_nil, List.drop_succ_cons, List.drop_zero, List.head?_cons, Nat.reduceEqDiff, decide_true, decide_false, Bool.and_self, Bool.false_eq_true, and_self, ne_eq, not_false_eq_true, List.cons_ne_nil, Nat.zero_add, eq_self, Bool.and_false, and_false]
    have : (1 ≤ c.cap ∧ c.cap ≤ 64 ∧ 0 ≤ c.fin ∧ c.fin ≤ 1152921504606846976) := by omega
    simp only [c_ref19_sizes, h1, h2, h3, h4, k1, k3, k4, k5, g1, g2, g3, g4, lps_lo, progs_lo, and_self, decide_true, Go.Ev.runFunc, Go.Ev.exec, Go.Ev.evOpers, Go.Ev.evOper, Go.Ev.item_op, Go.Ev.evOp, Go.Ev.Opnd.ev, Go.Ev.Env.get, Go.Ev.Env.set, Go.Ev.look, Go.Ev.argVars, Go.Ev.cellsAt, Go.Ev.loadC, Go.Ev.AV.cells, Go.Ev.plains, Go.Ev.AV.plain, Go.Ev.bin_lss, Go.Ev.bin_leq, Go.Ev.bin_gtr, Go.Ev.bin_geq, Go.Ev.resVals, Go.Ev.resVal, Go.Ev.resOf, Go.Ev.kill, Go.Ev.leave, Go.Ev.settle, Go.Ev.keep, Go.Ev.varsLo, Go.Ev.marksLo, Go.Ev.storeLo, Go.Ev.lo_v, Go.Ev.lo_fsl, Go.Ev.lo_fptr, Go.Ev.los_nil, Go.Ev.los_cons, Go.Ev.frz_lo, List.length_map, ↓Go.Ev.obind, ↓Go.Ev.itL_itB, ↓reduceIte, List.length_cons, List.length_nil, List.take_nil, List.drop_succ_cons, List.drop_zero, List.head?_cons, Nat.reduceEqDiff, decide_true, decide_false, Bool.and_self, Bool.false_eq_true, and_self, ne_eq, not_false_eq_true, List.cons_ne_nil, Nat.zero_add, eq_self]
  · simp only [c_ref19_sizes, h1, h2, h3, h4, k1, k3, k4, k5, lps_lo, progs_lo, decide_true, Bool.and_false, Bool.false_and, Go.Ev.runFunc, Go.Ev.exec, Go.Ev.evOpers, Go.Ev.evOper, Go.Ev.item_op, Go.Ev.evOp, Go.Ev.Opnd.ev, Go.Ev.Env.get, Go.Ev.Env.set, Go.Ev.look, Go.Ev.argVars, Go.Ev.cellsAt, Go.Ev.loadC, Go.Ev.AV.cells, Go.Ev.plains, Go.Ev.AV.plain, Go.Ev.bin_lss, Go.Ev.bin_gtr, Go.Ev.resVals, Go.Ev.resVal, Go.Ev.resOf, Go.Ev.kill, Go.Ev.leave, Go.Ev.settle, Go.Ev.keep, Go.Ev.varsLo, Go.Ev.marksLo, Go.Ev.storeLo, Go.Ev.lo_v, Go.Ev.lo_fsl, Go.Ev.lo_fptr, Go.Ev.los_nil, Go.Ev.los_cons, Go.Ev.frz_lo, List.length_map, ↓Go.Ev.obind, ↓Go.Ev.itL_itB, ↓reduceIte, List.length_cons, List.length_nil, List.take_nil, List.drop_succ_cons, List.drop_zero, List.head?_cons, Nat.reduceEqDiff, decide_true, decide_false, Bool.and_self, Bool.false_eq_true, and_self, ne_eq, not_false_eq_true, List.cons_ne_nil, Nat.zero_add, eq_self, Bool.false_and, Bool.and_false]
def rprogZ (c : Cfg) (p : List OpI) : Int := checkZ p c.progs.length c.lps.length c.look
def rstartZ (c : Cfg) (s : Start) : Int := if s.prog < 0 ∨ s.prog ≥ c.progs.length then 22 else if s.time < 0 ∨ s.time > 1152921504606846976 then 11 else 0
def rlpZ (c : Cfg) (l : List Start) : Int := firstZ (rstartZ c) l
def rcfgZ (c : Cfg) : Int := if rsizesB c = false then 1 else if c.look < 1 then 20 else if firstZ (rprogZ c) c.progs ≠ 0 then firstZ (rprogZ c) c.progs else firstZ (rlpZ c) c.lps
theorem rcheck_l1 (hl : c.progs.length ≤ 8) :
    ∃ y, itB (exec (evL T) itL none c_ref19_Check_L1) (Ev.settle [1, 3] true 0) ⟨[(1, (.fptr [(.fsl ((c.lps).map lpC) false), (.fsl ((c.progs).map progC) false), (.v (.int .i64 (c.look))), (.v (.int .i64 (c.fin))), (.v (.int .i64 (c.cap)))])), (3, (.v (.int .i64 (0))))], []⟩ [] = some y ∧ (c.progs.all (fun p => decide (rprogZ c p = 0)) = true ∧ (y.1 = .exit 0 ∧ y.2.1.marks = [] ∧ y.2.2 = [] ∧ Ev.look y.2.1.vars 1 = some (.fptr [(.fsl ((c.lps).map lpC) false), (.fsl ((c.progs).map progC) false), (.v (.int .i64 (c.look))), (.v (.int .i64 (c.fin))), (.v (.int .i64 (c.cap)))])) ∨
      c.progs.all (fun p => decide (rprogZ c p = 0)) = false ∧ ∃ x, c.progs.find? (fun p => !decide (rprogZ c p = 0)) = some x ∧ (y.1 = .ret ∧ y.2.1.marks = [] ∧ y.2.2 = [] ∧ Ev.look y.2.1.vars 2 = some (.v (.int .i64 (rprogZ c x))))) := by
  refine itB_find c.progs (fun i => ⟨[(1, (.fptr [(.fsl ((c.lps).map lpC) false), (.fsl ((c.progs).map progC) false), (.v (.int .i64 (c.look))), (.v (.int .i64 (c.fin))), (.v (.int .i64 (c.cap)))])), (3, (.v (.int .i64 (i))))], []⟩) [] (fun p => decide (rprogZ c p = 0)) _ (fun x y => _) ?_ ?_ ?_
  · intro i x hi hx hp
    have hi' : (i : Int) < (c.progs.length : Int) := by omega
    have hw : IntKind.i64.wrap ((i : Int) + 1) = ((i + 1 : Nat) : Int) := by rw [w64_small (by omega) (by omega)]; simp
    have hv := ref18_Check_ev x false c.progs.length c.lps.length c.look
    rw [show checkZ x c.progs.length c.lps.length c.look = 0 from of_decide_eq_true hp] at hv
    simp only [c_ref19_Check_L1, Int.natCast_nonneg, Int.toNat_natCast, List.getElem?_map, Option.map_some, hx, hi', hw, hv, lps_lo, progs_lo, prog_lo, progC, Go.Ev.exec, Go.Ev.evOpers, Go.Ev.evOper, Go.Ev.item_op, Go.Ev.item_P, Go.Ev.evOp, Go.Ev.evs, Go.Ev.Opnd.ev, Go.Ev.Env.get, Go.Ev.Env.set, Go.Ev.look, Go.Ev.cellsAt, Go.Ev.loadC, Go.Ev.bin_add, Go.Ev.bin_neq, Go.Ev.bin_lss, Go.Ev.settle, Go.Ev.keep, Go.Ev.varsLo, Go.Ev.marksLo, Go.Ev.storeLo, Go.Ev.lo_v, Go.Ev.lo_fsl, Go.Ev.lo_fptr, Go.Ev.los_nil, Go.Ev.los_cons, List.length_map, ↓Go.Ev.obind, Go.Ev.it1, ↓reduceIte, List.length_cons, List.length_nil, List.take_nil, List.drop_succ_cons, List.drop_zero, List.head?_cons, Nat.reduceEqDiff, decide_true, decide_false, Bool.and_self, Bool.false_eq_true, and_self, ne_eq, not_true_eq_false, Nat.zero_add, eq_self]
  · intro i x hi hx hp
    have hi' : (i : Int) < (c.progs.length : Int) := by omega
    have hv := ref18_Check_ev x false c.progs.length c.lps.length c.look
    have hz : ¬ checkZ x c.progs.length c.lps.length c.look = 0 := of_decide_eq_false hp
    simp only [c_ref19_Check_L1, Int.natCast_nonneg, Int.toNat_natCast, List.getElem?_map, Option.map_some, hx, hi', hv, hz, prog_lo, progC, Go.Ev.exec, Go.Ev.evOpers, Go.Ev.evOper, Go.Ev.item_op, Go.Ev.item_P, Go.Ev.evOp, Go.Ev.evs, Go.Ev.Opnd.ev, Go.Ev.Env.get, Go.Ev.Env.set, Go.Ev.look, Go.Ev.cellsAt, Go.Ev.loadC, Go.Ev.bin_neq, Go.Ev.bin_lss, Go.Ev.lo_v, Go.Ev.lo_fsl, Go.Ev.los_nil, Go.Ev.los_cons, List.length_map, ↓Go.Ev.obind, Go.Ev.it1, ↓reduceIte, List.length_cons, List.length_nil, List.drop_succ_cons, List.drop_zero, List.head?_cons, Nat.reduceEqDiff, decide_true, Bool.and_self, Bool.false_eq_true, ne_eq, not_false_eq_true, Nat.zero_add, eq_self]
    exact ⟨_, rfl, rfl, rfl, rfl, rfl⟩
  · simp only [c_ref19_Check_L1, Int.lt_irrefl, Go.Ev.exec, Go.Ev.evOpers, Go.Ev.evOper, Go.Ev.item_op, Go.Ev.evOp, Go.Ev.Opnd.ev, Go.Ev.Env.get, Go.Ev.Env.set, Go.Ev.look, Go.Ev.cellsAt, Go.Ev.loadC, Go.Ev.bin_lss, List.length_map, ↓Go.Ev.obind, Go.Ev.it1, ↓reduceIte, List.drop_succ_cons, List.drop_zero, List.head?_cons, Nat.reduceEqDiff, decide_false, Bool.false_eq_true, eq_self]
    exact ⟨_, rfl, rfl, rfl, rfl, rfl⟩
theorem rcheck_l3 (i : Nat) (l : List Start) (hx : c.lps[i]? = some l) (hl : l.length ≤ 8) :
    ∃ y, itB (exec (evL T) itL none c_ref19_Check_L3) (Ev.settle [1, 5, 6] true 0) ⟨[(1, (.fptr [(.fsl ((c.lps).map lpC) false), (.fsl ((c.progs).map progC) false), (.v (.int .i64 (c.look))), (.v (.int .i64 (c.fin))), (.v (.int .i64 (c.cap)))])), (5, (.v (.int .i64 (i)))), (6, (.v (.int .i64 (0))))], []⟩ [] = some y ∧ (l.all (fun s => decide (rstartZ c s = 0)) = true ∧ (y.1 = .exit 4 ∧ y.2.1.marks = [] ∧ y.2.2 = [] ∧ Ev.look y.2.1.vars 1 = some (.fptr [(.fsl ((c.lps).map lpC) false), (.fsl ((c.progs).map progC) false), (.v (.int .i64 (c.look))), (.v (.int .i64 (c.fin))), (.v (.int .i64 (c.cap)))]) ∧ Ev.look y.2.1.vars 5 = some (.v (.int .i64 (i)))) ∨
      l.all (fun s => decide (rstartZ c s = 0)) = false ∧ ∃ x, l.find? (fun s => !decide (rstartZ c s = 0)) = some x ∧ (y.1 = .ret ∧ y.2.1.marks = [] ∧ y.2.2 = [.row 2 [x.r] 0] ∧ Ev.look y.2.1.vars 2 = some (.v (.int .i64 (rstartZ c x))))) := by
  refine itB_find l (fun k => ⟨[(1, (.fptr [(.fsl ((c.lps).map lpC) false), (.fsl ((c.progs).map progC) false), (.v (.int .i64 (c.look))), (.v (.int .i64 (c.fin))), (.v (.int .i64 (c.cap)))])), (5, (.v (.int .i64 (i)))), (6, (.v (.int .i64 (k))))], []⟩) [] (fun s => decide (rstartZ c s = 0)) _ (fun x y => _) ?_ ?_ ?_
  · intro k s hk hs hp
    have hk' : (k : Int) < (l.length : Int) := by omega
    have hw : IntKind.i64.wrap ((k : Int) + 1) = ((k + 1 : Nat) : Int) := by rw [w64_small (by omega) (by omega)]; simp
    have hz : rstartZ c s = 0 := of_decide_eq_true hp
    unfold rstartZ at hz
    by_cases g1 : s.prog < 0
    · rw [if_pos (.inl g1)] at hz; cases hz
    by_cases g2 : s.prog ≥ (c.progs.length : Int)
    · rw [if_pos (.inr g2)] at hz; cases hz
    by_cases g3 : s.time < 0
    · rw [if_neg (by omega), if_pos (.inl g3)] at hz; cases hz
    by_cases g4 : s.time > 1152921504606846976
    · rw [if_neg (by omega), if_pos (.inr g4)] at hz; cases hz
    simp only [c_ref19_Check_L3, Int.natCast_nonneg, Int.toNat_natCast, List.getElem?_map, Option.map_some, hx, hs, hk', hw, g1, g2, g3, g4, lps_lo, progs_lo, lpC, Start.r, Go.Ev.exec, Go.Ev.evOpers, Go.Ev.evOper, Go.Ev.item_op, Go.Ev.evOp, Go.Ev.Opnd.ev, Go.Ev.Env.get, Go.Ev.Env.set, Go.Ev.look, Go.Ev.cellsAt, Go.Ev.loadC, Go.Ev.AV.cells, Go.Ev.plains, Go.Ev.AV.plain, Go.Ev.bin_add, Go.Ev.bin_lss, Go.Ev.bin_gtr, Go.Ev.bin_geq, Go.Ev.settle, Go.Ev.keep, Go.Ev.varsLo, Go.Ev.marksLo, Go.Ev.storeLo, Go.Ev.lo_v, Go.Ev.lo_fsl, Go.Ev.lo_fptr, Go.Ev.los_nil, Go.Ev.los_cons, List.length_map, ↓Go.Ev.obind, Go.Ev.it1, ↓reduceIte, List.length_cons, List.length_nil, List.getElem?_cons_zero, List.take_succ_cons, List.take_zero, List.take_nil, List.drop_succ_cons, List.drop_zero, List.drop_nil, List.nil_append, List.append_nil, List.set_cons_zero, List.head?_cons, Nat.reduceAdd, Nat.reduceEqDiff, decide_true, decide_false, Bool.and_self, Bool.false_eq_true, and_self, ne_eq, not_false_eq_true, List.cons_ne_nil, Nat.zero_add, Nat.add_zero, Nat.le_refl, eq_self]
  · intro k s hk hs hp
    have hk' : (k : Int) < (l.length : Int) := by omega
    have hz : ¬ rstartZ c s = 0 := of_decide_eq_false hp
    unfold rstartZ at hz ⊢
    by_cases g1 : s.prog < 0
    · rw [if_pos (.inl g1)]
      simp only [c_ref19_Check_L3, Int.natCast_nonneg, Int.toNat_natCast, List.getElem?_map, Option.map_some, hx, hs, hk', g1, lpC, Start.r, Go.Ev.exec, Go.Ev.evOpers, Go.Ev.evOper, Go.Ev.item_op, Go.Ev.evOp, Go.Ev.Opnd.ev, Go.Ev.Env.get, Go.Ev.Env.set, Go.Ev.Env.unset, Go.Ev.look, Go.Ev.cellsAt, Go.Ev.loadC, Go.Ev.AV.cells, Go.Ev.plains, Go.Ev.AV.plain, Go.Ev.bin_lss, List.length_map, ↓Go.Ev.obind, Go.Ev.it1, ↓reduceIte, List.length_cons, List.length_nil, List.getElem?_cons_zero, List.take_succ_cons, List.take_zero, List.take_nil, List.drop_succ_cons, List.drop_zero, List.drop_nil, List.nil_append, List.append_nil, List.set_cons_zero, List.head?_cons, Nat.reduceAdd, Nat.reduceEqDiff, decide_true, Bool.and_self, Bool.false_eq_true, Bool.true_eq_false, and_self, ne_eq, not_false_eq_true, List.cons_ne_nil, Nat.zero_add, Nat.add_zero, Nat.le_refl, eq_self]
      exact ⟨_, rfl, rfl, rfl, rfl, rfl⟩
    by_cases g2 : s.prog ≥ (c.progs.length : Int)
    · rw [if_pos (.inr g2)]
      simp only [c_ref19_Check_L3, Int.natCast_nonneg, Int.toNat_natCast, List.getElem?_map, Option.map_some, hx, hs, hk', g1, g2, lpC, Start.r, Go.Ev.exec, Go.Ev.evOpers, Go.Ev.evOper, Go.Ev.item_op, Go.Ev.evOp, Go.Ev.Opnd.ev, Go.Ev.Env.get, Go.Ev.Env.set, Go.Ev.look, Go.Ev.cellsAt, Go.Ev.loadC, Go.Ev.AV.cells, Go.Ev.plains, Go.Ev.AV.plain, Go.Ev.bin_lss, Go.Ev.bin_geq, List.length_map, ↓Go.Ev.obind, Go.Ev.it1, ↓reduceIte, List.length_cons, List.length_nil, List.getElem?_cons_zero, List.take_succ_cons, List.take_zero, List.take_nil, List.drop_succ_cons, List.drop_zero, List.drop_nil, List.nil_append, List.append_nil, List.set_cons_zero, List.head?_cons, Nat.reduceAdd, Nat.reduceEqDiff, decide_true, decide_false, Bool.and_self, Bool.false_eq_true, and_self, ne_eq, not_false_eq_true, List.cons_ne_nil, Nat.zero_add, Nat.add_zero, Nat.le_refl, eq_self]
      exact ⟨_, rfl, rfl, rfl, rfl, rfl⟩
    rw [if_neg (by omega)] at hz ⊢
    by_cases g3 : s.time < 0
    · rw [if_pos (.inl g3)]
      simp only [c_ref19_Check_L3, Int.natCast_nonneg, Int.toNat_natCast, List.getElem?_map, Option.map_some, hx, hs, hk', g1, g2, g3, lpC, Start.r, Go.Ev.exec, Go.Ev.evOpers, Go.Ev.evOper, Go.Ev.item_op, Go.Ev.evOp, Go.Ev.Opnd.ev, Go.Ev.Env.get, Go.Ev.Env.set, Go.Ev.Env.unset, Go.Ev.look, Go.Ev.cellsAt, Go.Ev.loadC, Go.Ev.AV.cells, Go.Ev.plains, Go.Ev.AV.plain, Go.Ev.bin_lss, Go.Ev.bin_geq, List.length_map, ↓Go.Ev.obind, Go.Ev.it1, ↓reduceIte, List.length_cons, List.length_nil, List.getElem?_cons_zero, List.take_succ_cons, List.take_zero, List.take_nil, List.drop_succ_cons, List.drop_zero, List.drop_nil, List.nil_append, List.append_nil, List.set_cons_zero, List.head?_cons, Nat.reduceAdd, Nat.reduceEqDiff, decide_true, decide_false, Bool.and_self, Bool.false_eq_true, Bool.true_eq_false, and_self, ne_eq, not_false_eq_true, List.cons_ne_nil, Nat.zero_add, Nat.add_zero, Nat.le_refl, eq_self]
      exact ⟨_, rfl, rfl, rfl, rfl, rfl⟩
    by_cases g4 : s.time > 1152921504606846976
    · rw [if_pos (.inr g4)]
      simp only [c_ref19_Check_L3, Int.natCast_nonneg, Int.toNat_natCast, List.getElem?_map, Option.map_some, hx, hs, hk', g1, g2, g3, g4, lpC, Start.r, Go.Ev.exec, Go.Ev.evOpers, Go.Ev.evOper, Go.Ev.item_op, Go.Ev.evOp, Go.Ev.Opnd.ev, Go.Ev.Env.get, Go.Ev.Env.set, Go.Ev.look, Go.Ev.cellsAt, Go.Ev.loadC, Go.Ev.AV.cells, Go.Ev.plains, Go.Ev.AV.plain, Go.Ev.bin_lss, Go.Ev.bin_gtr, Go.Ev.bin_geq, List.length_map, ↓Go.Ev.obind, Go.Ev.it1, ↓reduceIte, List.length_cons, List.length_nil, List.getElem?_cons_zero, List.take_succ_cons, List.take_zero, List.take_nil, List.drop_succ_cons, List.drop_zero, List.drop_nil, List.nil_append, List.append_nil, List.set_cons_zero, List.head?_cons, Nat.reduceAdd, Nat.reduceEqDiff, decide_true, decide_false, Bool.and_self, Bool.false_eq_true, and_self, ne_eq, not_false_eq_true, List.cons_ne_nil, Nat.zero_add, Nat.add_zero, Nat.le_refl, eq_self]
      exact ⟨_, rfl, rfl, rfl, rfl, rfl⟩
    · exact absurd (by rw [if_neg (by omega)]) hz
  · simp only [c_ref19_Check_L3, Int.natCast_nonneg, Int.toNat_natCast, List.getElem?_map, Option.map_some, hx, Int.lt_irrefl, lpC, Go.Ev.exec, Go.Ev.evOpers, Go.Ev.evOper, Go.Ev.item_op, Go.Ev.evOp, Go.Ev.Opnd.ev, Go.Ev.Env.get, Go.Ev.Env.set, Go.Ev.look, Go.Ev.cellsAt, Go.Ev.loadC, Go.Ev.bin_lss, List.length_map, ↓Go.Ev.obind, Go.Ev.it1, ↓reduceIte, List.length_cons, List.length_nil, List.drop_zero, List.head?_cons, Nat.reduceEqDiff, decide_false, Bool.false_eq_true, Nat.zero_add, eq_self]
    exact ⟨_, rfl, rfl, rfl, rfl, rfl, rfl⟩
theorem rcheck_l2 (hl : c.lps.length ≤ 8) (hll : ∀ l ∈ c.lps, l.length ≤ 8) :
    ∃ y, itB (exec (evL T) itL none c_ref19_Check_L2) (Ev.settle [1, 5] true 0) ⟨[(1, (.fptr [(.fsl ((c.lps).map lpC) false), (.fsl ((c.progs).map progC) false), (.v (.int .i64 (c.look))), (.v (.int .i64 (c.fin))), (.v (.int .i64 (c.cap)))])), (5, (.v (.int .i64 (0))))], []⟩ [] = some y ∧ (c.lps.all (fun l => decide (rlpZ c l = 0)) = true ∧ (y.1 = .exit 2 ∧ y.2.1.marks = [] ∧ y.2.2 = []) ∨
      c.lps.all (fun l => decide (rlpZ c l = 0)) = false ∧ ∃ x, c.lps.find? (fun l => !decide (rlpZ c l = 0)) = some x ∧ (y.1 = .ret ∧ y.2.1.marks = [] ∧ (∃ s : Start, y.2.2 = [.row 2 [s.r] 0]) ∧ Ev.look y.2.1.vars 2 = some (.v (.int .i64 (rlpZ c x))))) := by
  refine itB_find c.lps (fun i => ⟨[(1, (.fptr [(.fsl ((c.lps).map lpC) false), (.fsl ((c.progs).map progC) false), (.v (.int .i64 (c.look))), (.v (.int .i64 (c.fin))), (.v (.int .i64 (c.cap)))])), (5, (.v (.int .i64 (i))))], []⟩) [] (fun l => decide (rlpZ c l = 0)) _ (fun x y => _) ?_ ?_ ?_
  · intro i l hi hx hp
    have hi' : (i : Int) < (c.lps.length : Int) := by omega
    have hw : IntKind.i64.wrap ((i : Int) + 1) = ((i + 1 : Nat) : Int) := by rw [w64_small (by omega) (by omega)]; simp
    have hz : rlpZ c l = 0 := of_decide_eq_true hp
    obtain ⟨⟨y, e, σ⟩, k1, k2⟩ := rcheck_l3 c i l hx (hll l (List.mem_of_getElem? hx))
    simp only at k2
    rcases k2 with ⟨k3, rfl, k4, rfl, k5, k6⟩ | ⟨k3, x, k7, rfl, k4, rfl, k5⟩
    · simp only [c_ref19_Check_L2, hi', hw, k1, k4, k5, k6, lps_lo, progs_lo, Go.Ev.exec, Go.Ev.evOpers, Go.Ev.evOper, Go.Ev.item_op, Go.Ev.evOp, Go.Ev.Opnd.ev, Go.Ev.Env.get, Go.Ev.Env.set, Go.Ev.look, Go.Ev.cellsAt, Go.Ev.loadC, Go.Ev.bin_add, Go.Ev.bin_lss, Go.Ev.settle, Go.Ev.keep, Go.Ev.varsLo, Go.Ev.marksLo, Go.Ev.storeLo, Go.Ev.lo_v, Go.Ev.lo_fsl, Go.Ev.lo_fptr, Go.Ev.los_nil, Go.Ev.los_cons, List.length_map, ↓Go.Ev.obind, ↓Go.Ev.itL_itB, Go.Ev.it1, ↓reduceIte, List.length_nil, List.take_nil, List.drop_zero, List.head?_cons, Nat.reduceEqDiff, decide_true, Bool.and_self, Bool.false_eq_true, and_self, eq_self]
    · have h1 := List.find?_some k7
      have h2 : rstartZ c x = 0 := by rw [← firstZ_some k7]; exact hz
      simp [h2] at h1
  · intro i l hi hx hp
    have hi' : (i : Int) < (c.lps.length : Int) := by omega
    have hz : ¬ rlpZ c l = 0 := of_decide_eq_false hp
    obtain ⟨⟨y, e, σ⟩, k1, k2⟩ := rcheck_l3 c i l hx (hll l (List.mem_of_getElem? hx))
    simp only at k2
    rcases k2 with ⟨k3, rfl, k4, rfl, k5, k6⟩ | ⟨k3, x, k7, rfl, k4, rfl, k5⟩
    · exact absurd (firstZ_all k3) hz
    · rw [show rlpZ c l = rstartZ c x from firstZ_some k7]
      simp only [c_ref19_Check_L2, hi', k1, lps_lo, progs_lo, Go.Ev.exec, Go.Ev.evOpers, Go.Ev.evOper, Go.Ev.item_op, Go.Ev.evOp, Go.Ev.Opnd.ev, Go.Ev.Env.get, Go.Ev.Env.set, Go.Ev.look, Go.Ev.cellsAt, Go.Ev.loadC, Go.Ev.bin_lss, Go.Ev.settle, Go.Ev.keep, Go.Ev.varsLo, Go.Ev.marksLo, Go.Ev.storeLo, Go.Ev.lo_v, Go.Ev.lo_fsl, Go.Ev.lo_fptr, Go.Ev.los_nil, Go.Ev.los_cons, List.length_map, ↓Go.Ev.obind, ↓Go.Ev.itL_itB, Go.Ev.it1, ↓reduceIte, List.length_nil, List.take_nil, List.drop_zero, List.head?_cons, Nat.reduceEqDiff, decide_true, Bool.and_self, Bool.false_eq_true, and_self, eq_self]
      exact ⟨_, rfl, rfl, k4, ⟨x, rfl⟩, k5⟩
  · simp only [c_ref19_Check_L2, Int.lt_irrefl, Go.Ev.exec, Go.Ev.evOpers, Go.Ev.evOper, Go.Ev.item_op, Go.Ev.evOp, Go.Ev.Opnd.ev, Go.Ev.Env.get, Go.Ev.Env.set, Go.Ev.look, Go.Ev.cellsAt, Go.Ev.loadC, Go.Ev.bin_lss, List.length_map, ↓Go.Ev.obind, Go.Ev.it1, ↓reduceIte, List.drop_zero, List.head?_cons, Nat.reduceEqDiff, decide_false, Bool.false_eq_true, eq_self]
    exact ⟨_, rfl, rfl, rfl, rfl⟩
theorem ref19_Check_ev : callZ (evL T) n_ref19_Check [(.agg [(.fsl ((c.lps).map lpC) false), (.fsl ((c.progs).map progC) false), (.v (.int .i64 (c.look))), (.v (.int .i64 (c.fin))), (.v (.int .i64 (c.cap)))])] = some (.v (.int .i64 (rcfgZ c))) := by
  have hs := ref19_sizes_ev c
  unfold rcfgZ
  rw [callZ, evL_code ext_ref19_Check code_ref19_Check]
  cases h1 : rsizesB c with
  | false =>
    rw [h1] at hs
    simp only [c_ref19_Check, hs, lps_lo, progs_lo, Go.Ev.runFunc, Go.Ev.exec, Go.Ev.evOpers, Go.Ev.evOper, Go.Ev.item_op, Go.Ev.item_P, Go.Ev.evOp, Go.Ev.evs, Go.Ev.Opnd.ev, Go.Ev.Env.get, Go.Ev.Env.set, Go.Ev.look, Go.Ev.argVars, Go.Ev.cellsAt, Go.Ev.loadC, Go.Ev.AV.cells, Go.Ev.plains, Go.Ev.AV.plain, Go.Ev.resVals, Go.Ev.resVal, Go.Ev.resOf, Go.Ev.kill, Go.Ev.leave, Go.Ev.storeLo, Go.Ev.lo_v, Go.Ev.lo_agg, Go.Ev.lo_fsl, Go.Ev.los_nil, Go.Ev.los_cons, Go.Ev.frz_lo, ↓Go.Ev.obind, ↓reduceIte, List.length_cons, List.length_nil, List.take_succ_cons, List.take_nil, Nat.reduceAdd, Nat.reduceEqDiff, Bool.and_self, Bool.not_false, and_self, ne_eq, not_false_eq_true, List.cons_ne_nil, Nat.zero_add, Nat.le_refl, eq_self]
  | true =>
    rw [h1] at hs
    have h2 := h1
    simp only [rsizesB, Bool.and_eq_true, decide_eq_true_eq, List.all_eq_true] at h2
    obtain ⟨⟨s1, s2, s3⟩, s4, s5⟩ := h2
    have s6 : ∀ l ∈ c.lps, l.length ≤ 8 := fun l hl => by have := s4 l hl; simp [len8] at this; omega
    simp only [Bool.true_eq_false, if_false]
    by_cases hk : c.look < 1
    · simp only [c_ref19_Check, hs, hk, lps_lo, progs_lo, Go.Ev.runFunc, Go.Ev.exec, Go.Ev.evOpers, Go.Ev.evOper, Go.Ev.item_op, Go.Ev.item_P, Go.Ev.evOp, Go.Ev.evs, Go.Ev.Opnd.ev, Go.Ev.Env.get, Go.Ev.Env.set, Go.Ev.look, Go.Ev.argVars, Go.Ev.cellsAt, Go.Ev.loadC, Go.Ev.AV.cells, Go.Ev.plains, Go.Ev.AV.plain, Go.Ev.bin_lss, Go.Ev.resVals, Go.Ev.resVal, Go.Ev.resOf, Go.Ev.kill, Go.Ev.leave, Go.Ev.storeLo, Go.Ev.lo_v, Go.Ev.lo_agg, Go.Ev.lo_fsl, Go.Ev.los_nil, Go.Ev.los_cons, Go.Ev.frz_lo, ↓Go.Ev.obind, ↓reduceIte, List.length_cons, List.length_nil, List.take_succ_cons, List.take_nil, List.drop_succ_cons, List.drop_zero, List.head?_cons, Nat.reduceAdd, Nat.reduceEqDiff, decide_true, Bool.and_self, Bool.not_true, Bool.false_eq_true, and_self, ne_eq, not_false_eq_true, List.cons_ne_nil, Nat.zero_add, Nat.le_refl, eq_self]
    rw [if_neg hk]
    obtain ⟨⟨y, e, σ⟩, k1, k2⟩ := rcheck_l1 c s3
    obtain ⟨⟨y', e', σ'⟩, m1, m2⟩ := rcheck_l2 c s2 s6
    simp only at k2 m2
    rcases k2 with ⟨k3, rfl, k4, rfl, k5⟩ | ⟨k3, x, k7, rfl, k4, rfl, k5⟩
    · rw [firstZ_all k3, if_neg (by simp)]
      rcases m2 with ⟨m3, rfl, m4, rfl⟩ | ⟨m3, x, m7, rfl, m4, ⟨s, rfl⟩, m5⟩
      · rw [firstZ_all m3]
        simp only [c_ref19_Check, hs, hk, k1, k4, k5, m1, m4, lps_lo, progs_lo, Go.Ev.runFunc, Go.Ev.exec, Go.Ev.evOpers, Go.Ev.evOper, Go.Ev.item_op, Go.Ev.item_P, Go.Ev.evOp, Go.Ev.evs, Go.Ev.Opnd.ev, Go.Ev.Env.get, Go.Ev.Env.set, Go.Ev.look, Go.Ev.argVars, Go.Ev.cellsAt, Go.Ev.loadC, Go.Ev.AV.cells, Go.Ev.plains, Go.Ev.AV.plain, Go.Ev.bin_lss, Go.Ev.resVals, Go.Ev.resVal, Go.Ev.resOf, Go.Ev.kill, Go.Ev.leave, Go.Ev.settle, Go.Ev.keep, Go.Ev.varsLo, Go.Ev.marksLo, Go.Ev.storeLo, Go.Ev.lo_v, Go.Ev.lo_agg, Go.Ev.lo_fsl, Go.Ev.lo_fptr, Go.Ev.los_nil, Go.Ev.los_cons, Go.Ev.frz_lo, ↓Go.Ev.obind, ↓Go.Ev.itL_itB, ↓reduceIte, List.length_cons, List.length_nil, List.take_succ_cons, List.take_nil, List.drop_succ_cons, List.drop_zero, List.head?_cons, Nat.reduceAdd, Nat.reduceEqDiff, decide_false, Bool.and_self, Bool.not_true, Bool.false_eq_true, and_self, ne_eq, not_false_eq_true, List.cons_ne_nil, Nat.zero_add, Nat.le_refl, eq_self]
      · rw [firstZ_some m7]
        simp only [c_ref19_Check, hs, hk, k1, k4, k5, m1, m4, m5, lps_lo, progs_lo, Go.Ev.runFunc, Go.Ev.exec, Go.Ev.evOpers, Go.Ev.evOper, Go.Ev.item_op, Go.Ev.item_P, Go.Ev.evOp, Go.Ev.evs, Go.Ev.Opnd.ev, Go.Ev.Env.get, Go.Ev.Env.set, Go.Ev.look, Go.Ev.argVars, Go.Ev.cellsAt, Go.Ev.loadC, Go.Ev.AV.cells, Go.Ev.plains, Go.Ev.AV.plain, Go.Ev.bin_lss, Go.Ev.resVals, Go.Ev.resVal, Go.Ev.resOf, Go.Ev.kill, Go.Ev.leave, Go.Ev.settle, Go.Ev.keep, Go.Ev.varsLo, Go.Ev.marksLo, Go.Ev.storeLo, Go.Ev.lo_v, Go.Ev.lo_agg, Go.Ev.lo_fsl, Go.Ev.lo_fptr, Go.Ev.los_nil, Go.Ev.los_cons, Go.Ev.frz_lo, ↓Go.Ev.obind, ↓Go.Ev.itL_itB, ↓reduceIte, List.length_cons, List.length_nil, List.take_succ_cons, List.take_zero, List.take_nil, List.drop_succ_cons, List.drop_zero, List.head?_cons, Nat.reduceAdd, Nat.reduceEqDiff, decide_false, Bool.and_self, Bool.not_true, Bool.false_eq_true, and_self, ne_eq, not_false_eq_true, List.cons_ne_nil, Nat.zero_add, Nat.le_refl, eq_self]
    · have hz := List.find?_some k7
      have hz' : ¬ rprogZ c x = 0 := by simpa using hz
      rw [firstZ_some k7, if_pos hz']
      simp only [c_ref19_Check, hs, hk, k1, k4, k5, lps_lo, progs_lo, Go.Ev.runFunc, Go.Ev.exec, Go.Ev.evOpers, Go.Ev.evOper, Go.Ev.item_op, Go.Ev.item_P, Go.Ev.evOp, Go.Ev.evs, Go.Ev.Opnd.ev, Go.Ev.Env.get, Go.Ev.Env.set, Go.Ev.look, Go.Ev.argVars, Go.Ev.cellsAt, Go.Ev.loadC, Go.Ev.AV.cells, Go.Ev.plains, Go.Ev.AV.plain, Go.Ev.bin_lss, Go.Ev.resVals, Go.Ev.resVal, Go.Ev.resOf, Go.Ev.kill, Go.Ev.leave, Go.Ev.settle, Go.Ev.keep, Go.Ev.varsLo, Go.Ev.marksLo, Go.Ev.storeLo, Go.Ev.lo_v, Go.Ev.lo_agg, Go.Ev.lo_fsl, Go.Ev.lo_fptr, Go.Ev.los_nil, Go.Ev.los_cons, Go.Ev.frz_lo, ↓Go.Ev.obind, ↓Go.Ev.itL_itB, ↓reduceIte, List.length_cons, List.length_nil, List.take_succ_cons, List.take_nil, List.drop_succ_cons, List.drop_zero, List.head?_cons, Nat.reduceAdd, Nat.reduceEqDiff, decide_false, Bool.and_self, Bool.not_true, Bool.false_eq_true, and_self, ne_eq, not_false_eq_true, List.cons_ne_nil, Nat.zero_add, Nat.le_refl, eq_self]
end
end Go.Proofs.Ytlcakphdkpdenaa.K
