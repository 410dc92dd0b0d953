/- Part of the proofs about this seat's program (module CBase). -/
import Derived.Test.YtbkabnhkclbepaaSTab
import Derived.Test.YtbkabnhkclbepaaEvX
set_option linter.unusedSectionVars false
set_option linter.unusedSimpArgs false
set_option linter.unusedVariables false
namespace Go.Proofs.Ytbkabnhkclbepaa.K
open Go.Ev
set_option linter.unusedSimpArgs false
set_option linter.unusedVariables false
/-! ### What the program's values are -/
def intC (n : Int) : List AV := [(.v (.int .i64 (n)))]
theorem int_lo (n : Nat) (x : Int) : los n (intC x) = true := rfl
theorem int_pl (x : Int) : (intC x).length = 1 ∧ plains (intC x) = true := ⟨rfl, rfl⟩
theorem ints_lo (n : Nat) (l : List Int) : loss n (l.map intC) = true := loss_map (int_lo n) l
theorem ints_ok (l : List Int) : okRows 1 (l.map intC) = true := okRows_map int_pl l
def keyC (l : List Int) : List AV := [(.fsl ((l).map intC) false)]
theorem key_lo (n : Nat) (l : List Int) : los n (keyC l) = true := by simp only [keyC, los, AV.lo, ints_lo, Bool.and_self]
theorem key_pl (l : List Int) : (keyC l).length = 1 ∧ plains (keyC l) = true := ⟨rfl, rfl⟩
theorem keys_lo (n : Nat) (l : List (List Int)) : loss n (l.map keyC) = true := loss_map (key_lo n) l
theorem keys_ok (l : List (List Int)) : okRows 1 (l.map keyC) = true := okRows_map key_pl l
structure OpI where
  code : Int
  a : Int
  b : Int
  c : Int
  deriving DecidableEq
def OpI.r (x : OpI) : List AV := [(.v (.int .i64 (x.code))), (.v (.int .i64 (x.a))), (.v (.int .i64 (x.b))), (.v (.int .i64 (x.c)))]
theorem op_lo (n : Nat) (x : OpI) : los n x.r = true := rfl
theorem op_pl (x : OpI) : x.r.length = 4 ∧ plains x.r = true := ⟨rfl, rfl⟩
theorem prog_lo (n : Nat) (l : List OpI) : loss n (l.map OpI.r) = true := loss_map (op_lo n) l
theorem prog_ok (l : List OpI) : okRows 4 (l.map OpI.r) = true := okRows_map op_pl l
def progC (p : List OpI) : List AV := [(.fsl ((p).map OpI.r) false)]
theorem progC_lo (n : Nat) (l : List OpI) : los n (progC l) = true := by simp only [progC, los, AV.lo, prog_lo, Bool.and_self]
theorem progC_pl (l : List OpI) : (progC l).length = 1 ∧ plains (progC l) = true := ⟨rfl, rfl⟩
theorem progs_lo (n : Nat) (l : List (List OpI)) : loss n (l.map progC) = true := loss_map (progC_lo n) l
structure Start where
  prog : Int
  time : Int
  deriving DecidableEq
def Start.r (x : Start) : List AV := [(.v (.int .i64 (x.prog))), (.v (.int .i64 (x.time)))]
theorem start_lo (n : Nat) (x : Start) : los n x.r = true := rfl
theorem starts_lo (n : Nat) (l : List Start) : loss n (l.map Start.r) = true := loss_map (start_lo n) l
def lpC (p : List Start) : List AV := [(.fsl ((p).map Start.r) false)]
theorem lpC_lo (n : Nat) (l : List Start) : los n (lpC l) = true := by simp only [lpC, los, AV.lo, starts_lo, Bool.and_self]
theorem lps_lo (n : Nat) (l : List (List Start)) : loss n (l.map lpC) = true := loss_map (lpC_lo n) l
structure Cfg where
  lps : List (List Start)
  progs : List (List OpI)
  look : Int
  fin : Int
  cap : Int
end Go.Proofs.Ytbkabnhkclbepaa.K

namespace Go.Proofs.Ytbkabnhkclbepaa.K
open Go.Ev
set_option linter.unusedSimpArgs false
set_option linter.unusedVariables false
def delayB (n : Int) : Bool := decide (n ≥ 1) && decide (n ≤ 1099511627776)
def valueB (n : Int) : Bool := decide (n ≥ -1073741824) && decide (n ≤ 1073741824)
theorem ref18_delay_ev (n : Int) : callZ (evL T) n_ref18_delay [(.v (.int .i64 (n)))] = some (.v (.bool (delayB n))) := by
  rw [callZ, evL_code ext_ref18_delay code_ref18_delay]
  by_cases h1 : n ≥ 1 <;> simp only [delayB, c_ref18_delay, h1, Go.Ev.runFunc, Go.Ev.exec, Go.Ev.evOpers, Go.Ev.evOper, Go.Ev.item_op, Go.Ev.evOp, Go.Ev.Opnd.ev, Go.Ev.Env.get, Go.Ev.Env.set, Go.Ev.Env.unset, Go.Ev.look, Go.Ev.argVars, Go.Ev.bin_leq, Go.Ev.bin_geq, Go.Ev.resVals, Go.Ev.resVal, Go.Ev.resOf, Go.Ev.kill, Go.Ev.leave, Go.Ev.storeLo, Go.Ev.lo_v, Go.Ev.frz_lo, ↓Go.Ev.obind, ↓reduceIte, List.length_cons, List.length_nil, List.take_nil, Nat.reduceEqDiff, reduceCtorEq, decide_true, decide_false, Bool.true_and, Bool.false_eq_true, and_self, Nat.zero_add, eq_self, Bool.false_and]
theorem ref18_value_ev (n : Int) : callZ (evL T) n_ref18_value [(.v (.int .i64 (n)))] = some (.v (.bool (valueB n))) := by
  rw [callZ, evL_code ext_ref18_value code_ref18_value]
  by_cases h1 : n ≥ -1073741824 <;> simp only [valueB, c_ref18_value, h1, Go.Ev.runFunc, Go.Ev.exec, Go.Ev.evOpers, Go.Ev.evOper, Go.Ev.item_op, Go.Ev.evOp, Go.Ev.Opnd.ev, Go.Ev.Env.get, Go.Ev.Env.set, Go.Ev.Env.unset, Go.Ev.look, Go.Ev.argVars, Go.Ev.bin_leq, Go.Ev.bin_geq, Go.Ev.resVals, Go.Ev.resVal, Go.Ev.resOf, Go.Ev.kill, Go.Ev.leave, Go.Ev.storeLo, Go.Ev.lo_v, Go.Ev.frz_lo, ↓Go.Ev.obind, ↓reduceIte, List.length_cons, List.length_nil, List.take_nil, Nat.reduceEqDiff, Int.reduceNeg, reduceCtorEq, decide_true, decide_false, Bool.true_and, Bool.false_eq_true, and_self, Nat.zero_add, eq_self, Bool.false_and]
/-- The operands of an instruction. -/
def operB (x : OpI) (n ps : Int) : Bool :=
  if x.code = 1 then delayB x.a && (decide (x.b = 0) && decide (x.c = 0))
  else if x.code = 2 then decide (x.a ≥ 0) && (valueB x.b && delayB x.c)
  else if x.code = 3 then delayB x.a && (decide (x.b ≥ 0) && (decide (x.b < n) && decide (x.c = 0)))
  else if x.code = 5 then decide (x.a ≥ 0) && (decide (x.a < ps) && (delayB x.b && decide (x.c = 0)))
  else if x.code = 6 then decide (x.a ≥ 0) && (decide (x.a < 2) && (valueB x.b && decide (x.c = 0)))
  else if x.code = 7 then decide (x.a ≥ 0) && (decide (x.a < 2) && (valueB x.b && (decide (x.c ≥ 0) && decide (x.c < n))))
  else decide (x.a = 0) && (decide (x.b = 0) && decide (x.c = 0))
theorem ref18_operands_ev (x : OpI) (n ps : Int) : callZ (evL T) n_ref18_operands [(.agg [(.v (.int .i64 (x.code))), (.v (.int .i64 (x.a))), (.v (.int .i64 (x.b))), (.v (.int .i64 (x.c)))]), (.v (.int .i64 (n))), (.v (.int .i64 (ps)))] = some (.v (.bool (operB x n ps))) := by
  obtain ⟨k, a, b, c⟩ := x
  rw [callZ, evL_code ext_ref18_operands code_ref18_operands]
  simp only [operB]
  by_cases k1 : k = 1
  · subst k1
    cases h1 : delayB a <;> by_cases h2 : b = 0 <;> simp only [c_ref18_operands, ref18_delay_ev, h1, h2, Go.Ev.runFunc, Go.Ev.exec, Go.Ev.evOpers, Go.Ev.evOper, Go.Ev.item_op, Go.Ev.item_P, Go.Ev.evOp, Go.Ev.evs, Go.Ev.Opnd.ev, Go.Ev.Env.get, Go.Ev.Env.set, Go.Ev.Env.unset, Go.Ev.look, Go.Ev.argVars, Go.Ev.cellsAt, Go.Ev.loadC, Go.Ev.AV.cells, Go.Ev.plains, Go.Ev.AV.plain, Go.Ev.bin_eql, Go.Ev.resVals, Go.Ev.resVal, Go.Ev.resOf, Go.Ev.kill, Go.Ev.leave, Go.Ev.storeLo, Go.Ev.lo_v, Go.Ev.los_nil, Go.Ev.los_cons, Go.Ev.frz_lo, ↓Go.Ev.obind, ↓reduceIte, List.length_cons, List.length_nil, List.take_nil, List.drop_succ_cons, List.drop_zero, List.head?_cons, Nat.reduceAdd, Nat.reduceEqDiff, decide_true, decide_false, Bool.and_self, Bool.true_and, Bool.false_eq_true, and_self, ne_eq, not_false_eq_true, List.cons_ne_nil, Nat.zero_add, eq_self, Bool.false_and, Bool.and_false]
  by_cases k2 : k = 2
  · subst k2
    by_cases h1 : a ≥ 0 <;> cases h2 : valueB b <;> simp only [c_ref18_operands, ref18_delay_ev, ref18_value_ev, h1, h2, Go.Ev.runFunc, Go.Ev.exec, Go.Ev.evOpers, Go.Ev.evOper, Go.Ev.item_op, Go.Ev.item_P, Go.Ev.evOp, Go.Ev.evs, Go.Ev.Opnd.ev, Go.Ev.Env.get, Go.Ev.Env.set, Go.Ev.Env.unset, Go.Ev.look, Go.Ev.argVars, Go.Ev.cellsAt, Go.Ev.loadC, Go.Ev.AV.cells, Go.Ev.plains, Go.Ev.AV.plain, Go.Ev.bin_eql, Go.Ev.bin_geq, Go.Ev.resVals, Go.Ev.resVal, Go.Ev.resOf, Go.Ev.kill, Go.Ev.leave, Go.Ev.storeLo, Go.Ev.lo_v, Go.Ev.los_nil, Go.Ev.los_cons, Go.Ev.frz_lo, ↓Go.Ev.obind, ↓reduceIte, List.length_cons, List.length_nil, List.take_nil, List.drop_succ_cons, List.drop_zero, List.head?_cons, Nat.reduceAdd, Nat.reduceEqDiff, Int.reduceEq, decide_true, decide_false, Bool.and_self, Bool.true_and, Bool.false_eq_true, and_self, ne_eq, not_false_eq_true, List.cons_ne_nil, Nat.zero_add, eq_self, Bool.false_and, Bool.and_false]
  by_cases k3 : k = 3
  · subst k3
    cases h1 : delayB a <;> by_cases h2 : b ≥ 0 <;> by_cases h3 : b < n <;> simp only [c_ref18_operands, ref18_delay_ev, h1, h2, h3, Go.Ev.runFunc, Go.Ev.exec, Go.Ev.evOpers, Go.Ev.evOper, Go.Ev.item_op, Go.Ev.item_P, Go.Ev.evOp, Go.Ev.evs, Go.Ev.Opnd.ev, Go.Ev.Env.get, Go.Ev.Env.set, Go.Ev.Env.unset, Go.Ev.look, Go.Ev.argVars, Go.Ev.cellsAt, Go.Ev.loadC, Go.Ev.AV.cells, Go.Ev.plains, Go.Ev.AV.plain, Go.Ev.bin_eql, Go.Ev.bin_lss, Go.Ev.bin_geq, Go.Ev.resVals, Go.Ev.resVal, Go.Ev.resOf, Go.Ev.kill, Go.Ev.leave, Go.Ev.storeLo, Go.Ev.lo_v, Go.Ev.los_nil, Go.Ev.los_cons, Go.Ev.frz_lo, ↓Go.Ev.obind, ↓reduceIte, List.length_cons, List.length_nil, List.take_nil, List.drop_succ_cons, List.drop_zero, List.head?_cons, Nat.reduceAdd, Nat.reduceEqDiff, Int.reduceEq, reduceCtorEq, decide_true, decide_false, Bool.and_self, Bool.true_and, Bool.false_eq_true, and_self, ne_eq, not_false_eq_true, List.cons_ne_nil, Nat.zero_add, eq_self, Bool.false_and, Bool.and_false]
  by_cases k5 : k = 5
  · subst k5
    by_cases h1 : a ≥ 0 <;> by_cases h2 : a < ps <;> cases h3 : delayB b <;> simp only [c_ref18_operands, ref18_delay_ev, h1, h2, h3, Go.Ev.runFunc, Go.Ev.exec, Go.Ev.evOpers, Go.Ev.evOper, Go.Ev.item_op, Go.Ev.item_P, Go.Ev.evOp, Go.Ev.evs, Go.Ev.Opnd.ev, Go.Ev.Env.get, Go.Ev.Env.set, Go.Ev.Env.unset, Go.Ev.look, Go.Ev.argVars, Go.Ev.cellsAt, Go.Ev.loadC, Go.Ev.AV.cells, Go.Ev.plains, Go.Ev.AV.plain, Go.Ev.bin_eql, Go.Ev.bin_lss, Go.Ev.bin_geq, Go.Ev.resVals, Go.Ev.resVal, Go.Ev.resOf, Go.Ev.kill, Go.Ev.leave, Go.Ev.storeLo, Go.Ev.lo_v, Go.Ev.los_nil, Go.Ev.los_cons, Go.Ev.frz_lo, ↓Go.Ev.obind, ↓reduceIte, List.length_cons, List.length_nil, List.take_nil, List.drop_succ_cons, List.drop_zero, List.head?_cons, Nat.reduceAdd, Nat.reduceEqDiff, Int.reduceEq, reduceCtorEq, decide_true, decide_false, Bool.and_self, Bool.true_and, Bool.false_eq_true, and_self, ne_eq, not_false_eq_true, List.cons_ne_nil, Nat.zero_add, eq_self, Bool.false_and, Bool.and_false]
  by_cases k6 : k = 6
  · subst k6
    by_cases h1 : a ≥ 0 <;> by_cases h2 : a < 2 <;> cases h3 : valueB b <;> simp only [c_ref18_operands, ref18_value_ev, h1, h2, h3, Go.Ev.runFunc, Go.Ev.exec, Go.Ev.evOpers, Go.Ev.evOper, Go.Ev.item_op, Go.Ev.item_P, Go.Ev.evOp, Go.Ev.evs, Go.Ev.Opnd.ev, Go.Ev.Env.get, Go.Ev.Env.set, Go.Ev.Env.unset, Go.Ev.look, Go.Ev.argVars, Go.Ev.cellsAt, Go.Ev.loadC, Go.Ev.AV.cells, Go.Ev.plains, Go.Ev.AV.plain, Go.Ev.bin_eql, Go.Ev.bin_lss, Go.Ev.bin_geq, Go.Ev.resVals, Go.Ev.resVal, Go.Ev.resOf, Go.Ev.kill, Go.Ev.leave, Go.Ev.storeLo, Go.Ev.lo_v, Go.Ev.los_nil, Go.Ev.los_cons, Go.Ev.frz_lo, ↓Go.Ev.obind, ↓reduceIte, List.length_cons, List.length_nil, List.take_nil, List.drop_succ_cons, List.drop_zero, List.head?_cons, Nat.reduceAdd, Nat.reduceEqDiff, Int.reduceEq, decide_true, decide_false, Bool.and_self, Bool.true_and, Bool.false_eq_true, and_self, ne_eq, not_false_eq_true, List.cons_ne_nil, Nat.zero_add, eq_self, Bool.false_and, Bool.and_false]
  by_cases k7 : k = 7
  · subst k7
    by_cases h1 : a ≥ 0 <;> by_cases h2 : a < 2 <;> cases h3 : valueB b <;> by_cases h4 : c ≥ 0 <;> simp only [c_ref18_operands, ref18_value_ev, h1, h2, h3, h4, Go.Ev.runFunc, Go.Ev.exec, Go.Ev.evOpers, Go.Ev.evOper, Go.Ev.item_op, Go.Ev.item_P, Go.Ev.evOp, Go.Ev.evs, Go.Ev.Opnd.ev, Go.Ev.Env.get, Go.Ev.Env.set, Go.Ev.Env.unset, Go.Ev.look, Go.Ev.argVars, Go.Ev.cellsAt, Go.Ev.loadC, Go.Ev.AV.cells, Go.Ev.plains, Go.Ev.AV.plain, Go.Ev.bin_eql, Go.Ev.bin_lss, Go.Ev.bin_geq, Go.Ev.resVals, Go.Ev.resVal, Go.Ev.resOf, Go.Ev.kill, Go.Ev.leave, Go.Ev.storeLo, Go.Ev.lo_v, Go.Ev.los_nil, Go.Ev.los_cons, Go.Ev.frz_lo, ↓Go.Ev.obind, ↓reduceIte, List.length_cons, List.length_nil, List.take_nil, List.drop_succ_cons, List.drop_zero, List.head?_cons, Nat.reduceAdd, Nat.reduceEqDiff, Int.reduceEq, reduceCtorEq, decide_true, decide_false, Bool.and_self, Bool.true_and, Bool.false_eq_true, and_self, ne_eq, not_false_eq_true, List.cons_ne_nil, Nat.zero_add, eq_self, Bool.false_and, Bool.and_false]
  by_cases h1 : a = 0 <;> by_cases h2 : b = 0 <;> simp only [c_ref18_operands, k1, k2, k3, k5, k6, k7, h1, h2, Go.Ev.runFunc, Go.Ev.exec, Go.Ev.evOpers, Go.Ev.evOper, Go.Ev.item_op, Go.Ev.evOp, Go.Ev.Opnd.ev, Go.Ev.Env.get, Go.Ev.Env.set, Go.Ev.Env.unset, Go.Ev.look, Go.Ev.argVars, Go.Ev.cellsAt, Go.Ev.loadC, Go.Ev.AV.cells, Go.Ev.plains, Go.Ev.AV.plain, Go.Ev.bin_eql, Go.Ev.resVals, Go.Ev.resVal, Go.Ev.resOf, Go.Ev.kill, Go.Ev.leave, Go.Ev.storeLo, Go.Ev.lo_v, Go.Ev.frz_lo, ↓Go.Ev.obind, ↓reduceIte, List.length_cons, List.length_nil, List.take_nil, List.drop_succ_cons, List.drop_zero, List.head?_cons, Nat.reduceAdd, Nat.reduceEqDiff, decide_true, decide_false, Bool.and_self, Bool.true_and, Bool.false_eq_true, and_self, ne_eq, not_false_eq_true, List.cons_ne_nil, Nat.zero_add, eq_self, Bool.false_and, Bool.and_false]
end Go.Proofs.Ytbkabnhkclbepaa.K

namespace Go.Proofs.Ytbkabnhkclbepaa.K
open Go.Ev
set_option linter.unusedSimpArgs false
set_option linter.unusedVariables false
def codeB (x : OpI) : Bool := decide (x.code ≥ 1) && decide (x.code ≤ 8)
def shapeB (p : List OpI) : Bool := decide (1 ≤ p.length ∧ p.length ≤ 16) && p.all codeB
def tgtB (lps : Int) (x : OpI) : Bool := !(decide (x.code = 2) && decide (x.a ≥ lps))
def earlyB (look : Int) (x : OpI) : Bool := !(decide (x.code = 2) && decide (x.c < look))
def checkZ (p : List OpI) (ps lps look : Int) : Int :=
  if shapeB p = false then 22 else if p.all (fun x => operB x p.length ps) = false then 22 else if p.all (tgtB lps) = false then 23 else if p.all (earlyB look) = false then 21 else 0
section
variable (p : List OpI) (c : Bool) (ps lps look : Int)
theorem ref18_shape_L (hl : p.length ≤ 16) :
    ∃ y, itB (exec (evL T) itL none c_ref18_shape_L1) (Ev.settle [0, 3] true 0) ⟨[(0, (.fsl ((p).map OpI.r) c)), (3, (.v (.int .i64 (0))))], []⟩ [] = some y ∧ (p.all codeB = true ∧ (y.1 = .exit 0 ∧ y.2.1.marks = [] ∧ y.2.2 = []) ∨
      p.all codeB = false ∧ ∃ x, p.find? (fun x => !codeB x) = some x ∧ (y.1 = .ret ∧ y.2.1.marks = [] ∧ y.2.2 = [] ∧ Ev.look y.2.1.vars 2 = some (.v (.bool (false))))) := by
  refine itB_find p (fun i => ⟨[(0, (.fsl ((p).map OpI.r) c)), (3, (.v (.int .i64 (i))))], []⟩) [] codeB _ (fun _ y => _) ?_ ?_ ?_
  · intro i x hi hx hp
    have hi' : (i : Int) < (p.length : Int) := by omega
    have hw : IntKind.i64.wrap ((i : Int) + 1) = ((i + 1 : Nat) : Int) := by rw [w64_small (by omega) (by omega)]; simp
    simp only [codeB, Bool.and_eq_true, decide_eq_true_eq] at hp
    have h1 : ¬ x.code < 1 := by omega
    have h2 : ¬ x.code > 8 := by omega
    simp only [c_ref18_shape_L1, Int.natCast_nonneg, Int.toNat_natCast, List.getElem?_map, Option.map_some, OpI.r, hx, hi', hw, h1, h2, prog_lo, Go.Ev.exec, Go.Ev.evOpers, Go.Ev.evOper, Go.Ev.item_op, Go.Ev.evOp, Go.Ev.Opnd.ev, Go.Ev.Env.get, Go.Ev.Env.set, Go.Ev.look, Go.Ev.cellsAt, Go.Ev.loadC, Go.Ev.bin_add, Go.Ev.bin_lss, Go.Ev.bin_gtr, Go.Ev.settle, Go.Ev.keep, Go.Ev.varsLo, Go.Ev.marksLo, Go.Ev.storeLo, Go.Ev.lo_v, Go.Ev.lo_fsl, List.length_map, ↓Go.Ev.obind, Go.Ev.it1, ↓reduceIte, List.length_cons, List.length_nil, List.take_nil, List.drop_zero, List.head?_cons, Nat.reduceAdd, Nat.reduceEqDiff, reduceCtorEq, decide_true, decide_false, Bool.and_self, Bool.false_eq_true, and_self, Nat.zero_add, eq_self]
  · intro i x hi hx hp
    have hi' : (i : Int) < (p.length : Int) := by omega
    simp only [codeB, Bool.and_eq_false_iff, decide_eq_false_iff_not] at hp
    by_cases h1 : x.code < 1
    · simp only [c_ref18_shape_L1, Int.natCast_nonneg, Int.toNat_natCast, List.getElem?_map, Option.map_some, OpI.r, hx, hi', h1, Go.Ev.exec, Go.Ev.evOpers, Go.Ev.evOper, Go.Ev.item_op, Go.Ev.evOp, Go.Ev.Opnd.ev, Go.Ev.Env.get, Go.Ev.Env.set, Go.Ev.Env.unset, Go.Ev.look, Go.Ev.cellsAt, Go.Ev.loadC, Go.Ev.bin_lss, List.length_map, ↓Go.Ev.obind, Go.Ev.it1, ↓reduceIte, List.length_cons, List.length_nil, List.drop_zero, List.head?_cons, Nat.reduceAdd, Nat.reduceEqDiff, reduceCtorEq, decide_true, Bool.false_eq_true, Bool.true_eq_false, Nat.zero_add, eq_self]
      exact ⟨_, rfl, rfl, rfl, rfl, rfl⟩
    · have h2 : x.code > 8 := by omega
      simp only [c_ref18_shape_L1, Int.natCast_nonneg, Int.toNat_natCast, List.getElem?_map, Option.map_some, OpI.r, hx, hi', h1, h2, Go.Ev.exec, Go.Ev.evOpers, Go.Ev.evOper, Go.Ev.item_op, Go.Ev.evOp, Go.Ev.Opnd.ev, Go.Ev.Env.get, Go.Ev.Env.set, Go.Ev.look, Go.Ev.cellsAt, Go.Ev.loadC, Go.Ev.bin_lss, Go.Ev.bin_gtr, List.length_map, ↓Go.Ev.obind, Go.Ev.it1, ↓reduceIte, List.length_cons, List.length_nil, List.drop_zero, List.head?_cons, Nat.reduceAdd, Nat.reduceEqDiff, reduceCtorEq, decide_true, decide_false, Bool.false_eq_true, Nat.zero_add, eq_self]
      exact ⟨_, rfl, rfl, rfl, rfl, rfl⟩
  · simp only [c_ref18_shape_L1, Int.lt_irrefl, Go.Ev.exec, Go.Ev.evOpers, Go.Ev.evOper, Go.Ev.item_op, Go.Ev.evOp, Go.Ev.Opnd.ev, Go.Ev.Env.get, Go.Ev.Env.set, Go.Ev.look, Go.Ev.bin_lss, List.length_map, ↓Go.Ev.obind, Go.Ev.it1, ↓reduceIte, Nat.reduceEqDiff, reduceCtorEq, decide_false, Bool.false_eq_true, eq_self]
    exact ⟨_, rfl, rfl, rfl, rfl⟩
theorem ref18_shape_ev : callZ (evL T) n_ref18_shape [(.fsl ((p).map OpI.r) c)] = some (.v (.bool (shapeB p))) := by
  rw [callZ, evL_code ext_ref18_shape code_ref18_shape]
  by_cases h1 : (p.length : Int) < 1
  · have : ¬ (1 ≤ p.length ∧ p.length ≤ 16) := by omega
    simp only [c_ref18_shape, shapeB, this, h1, Go.Ev.runFunc, Go.Ev.exec, Go.Ev.evOpers, Go.Ev.evOper, Go.Ev.item_op, Go.Ev.evOp, Go.Ev.Opnd.ev, Go.Ev.Env.get, Go.Ev.Env.set, Go.Ev.Env.unset, Go.Ev.look, Go.Ev.argVars, Go.Ev.bin_lss, Go.Ev.resVals, Go.Ev.resVal, Go.Ev.resOf, Go.Ev.kill, Go.Ev.leave, Go.Ev.storeLo, Go.Ev.lo_v, Go.Ev.frz_lo, List.length_map, ↓Go.Ev.obind, ↓reduceIte, List.length_cons, List.length_nil, List.take_nil, Nat.reduceEqDiff, reduceCtorEq, decide_true, decide_false, Bool.true_eq_false, and_self, Nat.zero_add, eq_self, Bool.false_and]
  by_cases h2 : (p.length : Int) > 16
  · have : ¬ (1 ≤ p.length ∧ p.length ≤ 16) := by omega
    simp only [c_ref18_shape, shapeB, this, h1, h2, Go.Ev.runFunc, Go.Ev.exec, Go.Ev.evOpers, Go.Ev.evOper, Go.Ev.item_op, Go.Ev.evOp, Go.Ev.Opnd.ev, Go.Ev.Env.get, Go.Ev.Env.set, Go.Ev.look, Go.Ev.argVars, Go.Ev.bin_lss, Go.Ev.bin_gtr, Go.Ev.resVals, Go.Ev.resVal, Go.Ev.resOf, Go.Ev.kill, Go.Ev.leave, Go.Ev.storeLo, Go.Ev.lo_v, Go.Ev.frz_lo, List.length_map, ↓Go.Ev.obind, ↓reduceIte, List.length_cons, List.length_nil, List.take_nil, Nat.reduceEqDiff, reduceCtorEq, decide_true, decide_false, Bool.false_eq_true, and_self, Nat.zero_add, eq_self, Bool.false_and]
  have h3 : 1 ≤ p.length ∧ p.length ≤ 16 := by omega
  obtain ⟨⟨y, e, σ⟩, k1, k2⟩ := ref18_shape_L p c h3.2
  simp only at k2
  rcases k2 with ⟨k3, rfl, k4, rfl⟩ | ⟨k3, x, _, rfl, k4, rfl, k5⟩
  · simp only [c_ref18_shape, shapeB, h3, h1, h2, k1, k3, k4, prog_lo, Go.Ev.runFunc, Go.Ev.exec, Go.Ev.evOpers, Go.Ev.evOper, Go.Ev.item_op, Go.Ev.evOp, Go.Ev.Opnd.ev, Go.Ev.Env.get, Go.Ev.Env.set, Go.Ev.look, Go.Ev.argVars, Go.Ev.bin_lss, Go.Ev.bin_gtr, Go.Ev.resVals, Go.Ev.resVal, Go.Ev.resOf, Go.Ev.kill, Go.Ev.leave, Go.Ev.settle, Go.Ev.keep, Go.Ev.varsLo, Go.Ev.marksLo, Go.Ev.storeLo, Go.Ev.lo_v, Go.Ev.lo_fsl, Go.Ev.frz_lo, List.length_map, ↓Go.Ev.obind, ↓Go.Ev.itL_itB, ↓reduceIte, List.length_cons, List.length_nil, List.take_nil, Nat.reduceEqDiff, reduceCtorEq, decide_true, decide_false, Bool.and_self, Bool.false_eq_true, and_self, Nat.zero_add, eq_self]
  · simp only [c_ref18_shape, shapeB, h3, h1, h2, k1, k3, k4, k5, prog_lo, Go.Ev.runFunc, Go.Ev.exec, Go.Ev.evOpers, Go.Ev.evOper, Go.Ev.item_op, Go.Ev.evOp, Go.Ev.Opnd.ev, Go.Ev.Env.get, Go.Ev.Env.set, Go.Ev.look, Go.Ev.argVars, Go.Ev.bin_lss, Go.Ev.bin_gtr, Go.Ev.resVals, Go.Ev.resVal, Go.Ev.resOf, Go.Ev.kill, Go.Ev.leave, Go.Ev.settle, Go.Ev.keep, Go.Ev.varsLo, Go.Ev.marksLo, Go.Ev.storeLo, Go.Ev.lo_v, Go.Ev.lo_fsl, Go.Ev.frz_lo, List.length_map, ↓Go.Ev.obind, ↓Go.Ev.itL_itB, ↓reduceIte, List.length_cons, List.length_nil, List.take_nil, Nat.reduceEqDiff, reduceCtorEq, decide_true, decide_false, Bool.and_self, Bool.false_eq_true, and_self, Nat.zero_add, eq_self, Bool.and_false]
theorem ref18_Check_l1 (hl : p.length ≤ 16) :
    ∃ y, itB (exec (evL T) itL none c_ref18_Check_L1) (Ev.settle [0, 1, 2, 3, 9] true 0) ⟨[(0, (.fsl ((p).map OpI.r) c)), (1, (.v (.int .i64 (ps)))), (2, (.v (.int .i64 (lps)))), (3, (.v (.int .i64 (look)))), (9, (.v (.int .i64 (0))))], []⟩ [] = some y ∧
      (p.all (fun x => operB x p.length ps) = true ∧ (y.1 = .exit 0 ∧ y.2.1.marks = [] ∧ y.2.2 = [] ∧ Ev.look y.2.1.vars 0 = some (.fsl ((p).map OpI.r) c) ∧ Ev.look y.2.1.vars 2 = some (.v (.int .i64 (lps))) ∧ Ev.look y.2.1.vars 3 = some (.v (.int .i64 (look)))) ∨
      p.all (fun x => operB x p.length ps) = false ∧ ∃ x, p.find? (fun x => !operB x p.length ps) = some x ∧ (y.1 = .ret ∧ y.2.1.marks = [] ∧ y.2.2 = [] ∧ Ev.look y.2.1.vars 8 = some (.v (.int .i64 (22))))) := by
  refine itB_find p (fun i => ⟨[(0, (.fsl ((p).map OpI.r) c)), (1, (.v (.int .i64 (ps)))), (2, (.v (.int .i64 (lps)))), (3, (.v (.int .i64 (look)))), (9, (.v (.int .i64 (i))))], []⟩) [] (fun x => operB x p.length ps) _ (fun _ y => _) ?_ ?_ ?_
  · intro i x hi hx hp
    have hi' : (i : Int) < (p.length : Int) := by omega
    have hw : IntKind.i64.wrap ((i : Int) + 1) = ((i + 1 : Nat) : Int) := by rw [w64_small (by omega) (by omega)]; simp
    simp only [c_ref18_Check_L1, Int.natCast_nonneg, Int.toNat_natCast, List.getElem?_map, Option.map_some, OpI.r, hx, hi', hw, ref18_operands_ev, hp, prog_lo, Go.Ev.exec, Go.Ev.evOpers, Go.Ev.evOper, Go.Ev.item_op, Go.Ev.item_P, Go.Ev.evOp, Go.Ev.evs, Go.Ev.Opnd.ev, Go.Ev.Env.get, Go.Ev.Env.set, Go.Ev.look, Go.Ev.cellsAt, Go.Ev.loadC, Go.Ev.bin_add, Go.Ev.bin_lss, Go.Ev.settle, Go.Ev.keep, Go.Ev.varsLo, Go.Ev.marksLo, Go.Ev.storeLo, Go.Ev.lo_v, Go.Ev.lo_agg, Go.Ev.lo_fsl, Go.Ev.los_nil, Go.Ev.los_cons, List.length_map, ↓Go.Ev.obind, Go.Ev.it1, ↓reduceIte, List.length_cons, List.length_nil, List.take_succ_cons, List.take_nil, Nat.reduceAdd, Nat.reduceEqDiff, reduceCtorEq, decide_true, Bool.and_self, Bool.not_true, Bool.false_eq_true, and_self, Nat.zero_add, Nat.le_refl, eq_self]
  · intro i x hi hx hp
    have hi' : (i : Int) < (p.length : Int) := by omega
    simp only [c_ref18_Check_L1, Int.natCast_nonneg, Int.toNat_natCast, List.getElem?_map, Option.map_some, OpI.r, hx, hi', ref18_operands_ev, hp, Go.Ev.exec, Go.Ev.evOpers, Go.Ev.evOper, Go.Ev.item_op, Go.Ev.item_P, Go.Ev.evOp, Go.Ev.evs, Go.Ev.Opnd.ev, Go.Ev.Env.get, Go.Ev.Env.set, Go.Ev.look, Go.Ev.cellsAt, Go.Ev.loadC, Go.Ev.bin_lss, Go.Ev.lo_v, Go.Ev.lo_agg, Go.Ev.los_nil, Go.Ev.los_cons, List.length_map, ↓Go.Ev.obind, Go.Ev.it1, ↓reduceIte, List.length_cons, List.length_nil, List.take_succ_cons, List.take_nil, Nat.reduceAdd, Nat.reduceEqDiff, reduceCtorEq, decide_true, Bool.and_self, Bool.not_false, Nat.zero_add, Nat.le_refl, eq_self]
    exact ⟨_, rfl, rfl, rfl, rfl, rfl⟩
  · simp only [c_ref18_Check_L1, Int.lt_irrefl, Go.Ev.exec, Go.Ev.evOpers, Go.Ev.evOper, Go.Ev.item_op, Go.Ev.evOp, Go.Ev.Opnd.ev, Go.Ev.Env.get, Go.Ev.Env.set, Go.Ev.look, Go.Ev.bin_lss, List.length_map, ↓Go.Ev.obind, Go.Ev.it1, ↓reduceIte, Nat.reduceEqDiff, reduceCtorEq, decide_false, Bool.false_eq_true, eq_self]
    exact ⟨_, rfl, rfl, rfl, rfl, rfl, rfl, rfl⟩
theorem ref18_Check_l2 (hl : p.length ≤ 16) :
    ∃ y, itB (exec (evL T) itL none c_ref18_Check_L2) (Ev.settle [0, 2, 3, 10] true 0) ⟨[(0, (.fsl ((p).map OpI.r) c)), (2, (.v (.int .i64 (lps)))), (3, (.v (.int .i64 (look)))), (10, (.v (.int .i64 (0))))], []⟩ [] = some y ∧
      (p.all (tgtB lps) = true ∧ (y.1 = .exit 2 ∧ y.2.1.marks = [] ∧ y.2.2 = [] ∧ Ev.look y.2.1.vars 0 = some (.fsl ((p).map OpI.r) c) ∧ Ev.look y.2.1.vars 3 = some (.v (.int .i64 (look)))) ∨
      p.all (tgtB lps) = false ∧ ∃ x, p.find? (fun x => !tgtB lps x) = some x ∧ (y.1 = .ret ∧ y.2.1.marks = [] ∧ y.2.2 = [] ∧ Ev.look y.2.1.vars 8 = some (.v (.int .i64 (23))))) := by
  refine itB_find p (fun i => ⟨[(0, (.fsl ((p).map OpI.r) c)), (2, (.v (.int .i64 (lps)))), (3, (.v (.int .i64 (look)))), (10, (.v (.int .i64 (i))))], []⟩) [] (tgtB lps) _ (fun _ y => _) ?_ ?_ ?_
  · intro i x hi hx hp
    have hi' : (i : Int) < (p.length : Int) := by omega
    have hw : IntKind.i64.wrap ((i : Int) + 1) = ((i + 1 : Nat) : Int) := by rw [w64_small (by omega) (by omega)]; simp
    by_cases h1 : x.code = 2
    · have h2 : ¬ x.a ≥ lps := by simpa [tgtB, h1] using hp
      simp only [c_ref18_Check_L2, Int.natCast_nonneg, Int.toNat_natCast, List.getElem?_map, Option.map_some, OpI.r, hx, hi', hw, h1, h2, prog_lo, Go.Ev.exec, Go.Ev.evOpers, Go.Ev.evOper, Go.Ev.item_op, Go.Ev.evOp, Go.Ev.Opnd.ev, Go.Ev.Env.get, Go.Ev.Env.set, Go.Ev.look, Go.Ev.cellsAt, Go.Ev.loadC, Go.Ev.bin_add, Go.Ev.bin_eql, Go.Ev.bin_lss, Go.Ev.bin_geq, Go.Ev.settle, Go.Ev.keep, Go.Ev.varsLo, Go.Ev.marksLo, Go.Ev.storeLo, Go.Ev.lo_v, Go.Ev.lo_fsl, List.length_map, ↓Go.Ev.obind, Go.Ev.it1, ↓reduceIte, List.length_cons, List.length_nil, List.take_nil, List.drop_succ_cons, List.drop_zero, List.head?_cons, Nat.reduceAdd, Nat.reduceEqDiff, reduceCtorEq, decide_true, decide_false, Bool.and_self, Bool.false_eq_true, and_self, Nat.zero_add, eq_self]
    · simp only [c_ref18_Check_L2, Int.natCast_nonneg, Int.toNat_natCast, List.getElem?_map, Option.map_some, OpI.r, hx, hi', hw, h1, prog_lo, Go.Ev.exec, Go.Ev.evOpers, Go.Ev.evOper, Go.Ev.item_op, Go.Ev.evOp, Go.Ev.Opnd.ev, Go.Ev.Env.get, Go.Ev.Env.set, Go.Ev.Env.unset, Go.Ev.look, Go.Ev.cellsAt, Go.Ev.loadC, Go.Ev.bin_add, Go.Ev.bin_eql, Go.Ev.bin_lss, Go.Ev.settle, Go.Ev.keep, Go.Ev.varsLo, Go.Ev.marksLo, Go.Ev.storeLo, Go.Ev.lo_v, Go.Ev.lo_fsl, List.length_map, ↓Go.Ev.obind, Go.Ev.it1, ↓reduceIte, List.length_cons, List.length_nil, List.take_nil, List.drop_zero, List.head?_cons, Nat.reduceAdd, Nat.reduceEqDiff, reduceCtorEq, decide_true, decide_false, Bool.and_self, Bool.false_eq_true, and_self, Nat.zero_add, eq_self]
  · intro i x hi hx hp
    have hi' : (i : Int) < (p.length : Int) := by omega
    have h1 : x.code = 2 := by
      by_cases h1 : x.code = 2
      · exact h1
      · simp [tgtB, h1] at hp
    have h2 : x.a ≥ lps := by simpa [tgtB, h1] using hp
    simp only [c_ref18_Check_L2, Int.natCast_nonneg, Int.toNat_natCast, List.getElem?_map, Option.map_some, OpI.r, hx, hi', h1, h2, Go.Ev.exec, Go.Ev.evOpers, Go.Ev.evOper, Go.Ev.item_op, Go.Ev.evOp, Go.Ev.Opnd.ev, Go.Ev.Env.get, Go.Ev.Env.set, Go.Ev.look, Go.Ev.cellsAt, Go.Ev.loadC, Go.Ev.bin_eql, Go.Ev.bin_lss, Go.Ev.bin_geq, List.length_map, ↓Go.Ev.obind, Go.Ev.it1, ↓reduceIte, List.length_cons, List.length_nil, List.drop_succ_cons, List.drop_zero, List.head?_cons, Nat.reduceAdd, Nat.reduceEqDiff, reduceCtorEq, decide_true, Bool.false_eq_true, Nat.zero_add, eq_self]
    exact ⟨_, rfl, rfl, rfl, rfl, rfl⟩
  · simp only [c_ref18_Check_L2, Int.lt_irrefl, Go.Ev.exec, Go.Ev.evOpers, Go.Ev.evOper, Go.Ev.item_op, Go.Ev.evOp, Go.Ev.Opnd.ev, Go.Ev.Env.get, Go.Ev.Env.set, Go.Ev.look, Go.Ev.bin_lss, List.length_map, ↓Go.Ev.obind, Go.Ev.it1, ↓reduceIte, Nat.reduceEqDiff, reduceCtorEq, decide_false, Bool.false_eq_true, eq_self]
    exact ⟨_, rfl, rfl, rfl, rfl, rfl, rfl⟩
theorem ref18_Check_l3 (hl : p.length ≤ 16) :
    ∃ y, itB (exec (evL T) itL none c_ref18_Check_L3) (Ev.settle [0, 3, 11] true 0) ⟨[(0, (.fsl ((p).map OpI.r) c)), (3, (.v (.int .i64 (look)))), (11, (.v (.int .i64 (0))))], []⟩ [] = some y ∧
      (p.all (earlyB look) = true ∧ (y.1 = .exit 4 ∧ y.2.1.marks = [] ∧ y.2.2 = []) ∨
      p.all (earlyB look) = false ∧ ∃ x, p.find? (fun x => !earlyB look x) = some x ∧ (y.1 = .ret ∧ y.2.1.marks = [] ∧ y.2.2 = [] ∧ Ev.look y.2.1.vars 8 = some (.v (.int .i64 (21))))) := by
  refine itB_find p (fun i => ⟨[(0, (.fsl ((p).map OpI.r) c)), (3, (.v (.int .i64 (look)))), (11, (.v (.int .i64 (i))))], []⟩) [] (earlyB look) _ (fun _ y => _) ?_ ?_ ?_
  · intro i x hi hx hp
    have hi' : (i : Int) < (p.length : Int) := by omega
    have hw : IntKind.i64.wrap ((i : Int) + 1) = ((i + 1 : Nat) : Int) := by rw [w64_small (by omega) (by omega)]; simp
    by_cases h1 : x.code = 2
    · have h2 : ¬ x.c < look := by simpa [earlyB, h1] using hp
      simp only [c_ref18_Check_L3, Int.natCast_nonneg, Int.toNat_natCast, List.getElem?_map, Option.map_some, OpI.r, hx, hi', hw, h1, h2, prog_lo, Go.Ev.exec, Go.Ev.evOpers, Go.Ev.evOper, Go.Ev.item_op, Go.Ev.evOp, Go.Ev.Opnd.ev, Go.Ev.Env.get, Go.Ev.Env.set, Go.Ev.look, Go.Ev.cellsAt, Go.Ev.loadC, Go.Ev.bin_add, Go.Ev.bin_eql, Go.Ev.bin_lss, Go.Ev.settle, Go.Ev.keep, Go.Ev.varsLo, Go.Ev.marksLo, Go.Ev.storeLo, Go.Ev.lo_v, Go.Ev.lo_fsl, List.length_map, ↓Go.Ev.obind, Go.Ev.it1, ↓reduceIte, List.length_cons, List.length_nil, List.take_nil, List.drop_succ_cons, List.drop_zero, List.head?_cons, Nat.reduceAdd, Nat.reduceEqDiff, reduceCtorEq, decide_true, decide_false, Bool.and_self, Bool.false_eq_true, and_self, Nat.zero_add, eq_self]
    · simp only [c_ref18_Check_L3, Int.natCast_nonneg, Int.toNat_natCast, List.getElem?_map, Option.map_some, OpI.r, hx, hi', hw, h1, prog_lo, Go.Ev.exec, Go.Ev.evOpers, Go.Ev.evOper, Go.Ev.item_op, Go.Ev.evOp, Go.Ev.Opnd.ev, Go.Ev.Env.get, Go.Ev.Env.set, Go.Ev.Env.unset, Go.Ev.look, Go.Ev.cellsAt, Go.Ev.loadC, Go.Ev.bin_add, Go.Ev.bin_eql, Go.Ev.bin_lss, Go.Ev.settle, Go.Ev.keep, Go.Ev.varsLo, Go.Ev.marksLo, Go.Ev.storeLo, Go.Ev.lo_v, Go.Ev.lo_fsl, List.length_map, ↓Go.Ev.obind, Go.Ev.it1, ↓reduceIte, List.length_cons, List.length_nil, List.take_nil, List.drop_zero, List.head?_cons, Nat.reduceAdd, Nat.reduceEqDiff, reduceCtorEq, decide_true, decide_false, Bool.and_self, Bool.false_eq_true, and_self, Nat.zero_add, eq_self]
  · intro i x hi hx hp
    have hi' : (i : Int) < (p.length : Int) := by omega
    have h1 : x.code = 2 := by
      by_cases h1 : x.code = 2
      · exact h1
      · simp [earlyB, h1] at hp
    have h2 : x.c < look := by simpa [earlyB, h1] using hp
    simp only [c_ref18_Check_L3, Int.natCast_nonneg, Int.toNat_natCast, List.getElem?_map, Option.map_some, OpI.r, hx, hi', h1, h2, Go.Ev.exec, Go.Ev.evOpers, Go.Ev.evOper, Go.Ev.item_op, Go.Ev.evOp, Go.Ev.Opnd.ev, Go.Ev.Env.get, Go.Ev.Env.set, Go.Ev.look, Go.Ev.cellsAt, Go.Ev.loadC, Go.Ev.bin_eql, Go.Ev.bin_lss, List.length_map, ↓Go.Ev.obind, Go.Ev.it1, ↓reduceIte, List.length_cons, List.length_nil, List.drop_succ_cons, List.drop_zero, List.head?_cons, Nat.reduceAdd, Nat.reduceEqDiff, reduceCtorEq, decide_true, Bool.false_eq_true, Nat.zero_add, eq_self]
    exact ⟨_, rfl, rfl, rfl, rfl, rfl⟩
  · simp only [c_ref18_Check_L3, Int.lt_irrefl, Go.Ev.exec, Go.Ev.evOpers, Go.Ev.evOper, Go.Ev.item_op, Go.Ev.evOp, Go.Ev.Opnd.ev, Go.Ev.Env.get, Go.Ev.Env.set, Go.Ev.look, Go.Ev.bin_lss, List.length_map, ↓Go.Ev.obind, Go.Ev.it1, ↓reduceIte, Nat.reduceEqDiff, reduceCtorEq, decide_false, Bool.false_eq_true, eq_self]
    exact ⟨_, rfl, rfl, rfl, rfl⟩
theorem ref18_Check_ev : callZ (evL T) n_ref18_Check [(.fsl ((p).map OpI.r) c), (.v (.int .i64 (ps))), (.v (.int .i64 (lps))), (.v (.int .i64 (look)))] = some (.v (.int .i64 (checkZ p ps lps look))) := by
  have h0 := ref18_shape_ev p c
  rw [callZ, evL_code ext_ref18_Check code_ref18_Check]
  cases hs : shapeB p with
  | false =>
    rw [hs] at h0
    simp only [c_ref18_Check, checkZ, h0, hs, prog_lo, Go.Ev.runFunc, Go.Ev.exec, Go.Ev.evOpers, Go.Ev.evOper, Go.Ev.item_op, Go.Ev.item_P, Go.Ev.evOp, Go.Ev.evs, Go.Ev.Opnd.ev, Go.Ev.Env.get, Go.Ev.Env.set, Go.Ev.look, Go.Ev.argVars, Go.Ev.resVals, Go.Ev.resVal, Go.Ev.resOf, Go.Ev.kill, Go.Ev.leave, Go.Ev.storeLo, Go.Ev.lo_v, Go.Ev.lo_fsl, Go.Ev.los_nil, Go.Ev.los_cons, Go.Ev.frz_lo, ↓Go.Ev.obind, ↓reduceIte, List.length_cons, List.length_nil, List.take_nil, Nat.reduceAdd, reduceCtorEq, Bool.and_self, Bool.not_false, and_self, Nat.zero_add, eq_self]
  | true =>
    rw [hs] at h0
    have hl : p.length ≤ 16 := by simp only [shapeB, Bool.and_eq_true, decide_eq_true_eq] at hs; exact hs.1.2
    obtain ⟨⟨y1, e1, σ1⟩, k1, k2⟩ := ref18_Check_l1 p c ps lps look hl
    obtain ⟨⟨y2, e2, σ2⟩, m1, m2⟩ := ref18_Check_l2 p c lps look hl
    obtain ⟨⟨y3, e3, σ3⟩, n1, n2⟩ := ref18_Check_l3 p c look hl
    simp only at k2 m2 n2
    rcases k2 with ⟨q1, rfl, q2, rfl, q3, q4, q5⟩ | ⟨q1, x, _, rfl, q2, rfl, q3⟩
    · rcases m2 with ⟨r1, rfl, r2, rfl, r3, r4⟩ | ⟨r1, x, _, rfl, r2, rfl, r3⟩
      · rcases n2 with ⟨t1, rfl, t2, rfl⟩ | ⟨t1, x, _, rfl, t2, rfl, t3⟩
        · simp only [c_ref18_Check, checkZ, h0, hs, k1, q1, q2, q3, q4, q5, m1, r1, r2, r3, r4, n1, t1, t2, prog_lo, Go.Ev.runFunc, Go.Ev.exec, Go.Ev.evOpers, Go.Ev.evOper, Go.Ev.item_op, Go.Ev.item_P, Go.Ev.evOp, Go.Ev.evs, Go.Ev.Opnd.ev, Go.Ev.Env.get, Go.Ev.Env.set, Go.Ev.look, Go.Ev.argVars, Go.Ev.resVals, Go.Ev.resVal, Go.Ev.resOf, Go.Ev.kill, Go.Ev.leave, Go.Ev.settle, Go.Ev.keep, Go.Ev.varsLo, Go.Ev.marksLo, Go.Ev.storeLo, Go.Ev.lo_v, Go.Ev.lo_fsl, Go.Ev.los_nil, Go.Ev.los_cons, Go.Ev.frz_lo, ↓Go.Ev.obind, ↓Go.Ev.itL_itB, ↓reduceIte, List.length_cons, List.length_nil, List.take_nil, Nat.reduceAdd, Nat.reduceEqDiff, reduceCtorEq, Bool.and_self, Bool.not_true, Bool.false_eq_true, Bool.true_eq_false, and_self, Nat.zero_add, eq_self]
        · simp only [c_ref18_Check, checkZ, h0, hs, k1, q1, q2, q3, q4, q5, m1, r1, r2, r3, r4, n1, t1, t2, t3, prog_lo, Go.Ev.runFunc, Go.Ev.exec, Go.Ev.evOpers, Go.Ev.evOper, Go.Ev.item_op, Go.Ev.item_P, Go.Ev.evOp, Go.Ev.evs, Go.Ev.Opnd.ev, Go.Ev.Env.get, Go.Ev.Env.set, Go.Ev.look, Go.Ev.argVars, Go.Ev.resVals, Go.Ev.resVal, Go.Ev.resOf, Go.Ev.kill, Go.Ev.leave, Go.Ev.settle, Go.Ev.keep, Go.Ev.varsLo, Go.Ev.marksLo, Go.Ev.storeLo, Go.Ev.lo_v, Go.Ev.lo_fsl, Go.Ev.los_nil, Go.Ev.los_cons, Go.Ev.frz_lo, ↓Go.Ev.obind, ↓Go.Ev.itL_itB, ↓reduceIte, List.length_cons, List.length_nil, List.take_nil, Nat.reduceAdd, Nat.reduceEqDiff, reduceCtorEq, Bool.and_self, Bool.not_true, Bool.false_eq_true, Bool.true_eq_false, and_self, Nat.zero_add, eq_self]
      · simp only [c_ref18_Check, checkZ, h0, hs, k1, q1, q2, q3, q4, q5, m1, r1, r2, r3, prog_lo, Go.Ev.runFunc, Go.Ev.exec, Go.Ev.evOpers, Go.Ev.evOper, Go.Ev.item_op, Go.Ev.item_P, Go.Ev.evOp, Go.Ev.evs, Go.Ev.Opnd.ev, Go.Ev.Env.get, Go.Ev.Env.set, Go.Ev.look, Go.Ev.argVars, Go.Ev.resVals, Go.Ev.resVal, Go.Ev.resOf, Go.Ev.kill, Go.Ev.leave, Go.Ev.settle, Go.Ev.keep, Go.Ev.varsLo, Go.Ev.marksLo, Go.Ev.storeLo, Go.Ev.lo_v, Go.Ev.lo_fsl, Go.Ev.los_nil, Go.Ev.los_cons, Go.Ev.frz_lo, ↓Go.Ev.obind, ↓Go.Ev.itL_itB, ↓reduceIte, List.length_cons, List.length_nil, List.take_nil, Nat.reduceAdd, Nat.reduceEqDiff, reduceCtorEq, Bool.and_self, Bool.not_true, Bool.false_eq_true, Bool.true_eq_false, and_self, Nat.zero_add, eq_self]
    · simp only [c_ref18_Check, checkZ, h0, hs, k1, q1, q2, q3, prog_lo, Go.Ev.runFunc, Go.Ev.exec, Go.Ev.evOpers, Go.Ev.evOper, Go.Ev.item_op, Go.Ev.item_P, Go.Ev.evOp, Go.Ev.evs, Go.Ev.Opnd.ev, Go.Ev.Env.get, Go.Ev.Env.set, Go.Ev.look, Go.Ev.argVars, Go.Ev.resVals, Go.Ev.resVal, Go.Ev.resOf, Go.Ev.kill, Go.Ev.leave, Go.Ev.settle, Go.Ev.keep, Go.Ev.varsLo, Go.Ev.marksLo, Go.Ev.storeLo, Go.Ev.lo_v, Go.Ev.lo_fsl, Go.Ev.los_nil, Go.Ev.los_cons, Go.Ev.frz_lo, ↓Go.Ev.obind, ↓Go.Ev.itL_itB, ↓reduceIte, List.length_cons, List.length_nil, List.take_nil, Nat.reduceAdd, Nat.reduceEqDiff, reduceCtorEq, Bool.and_self, Bool.not_true, Bool.false_eq_true, Bool.true_eq_false, and_self, Nat.zero_add, eq_self]
end
end Go.Proofs.Ytbkabnhkclbepaa.K

namespace Go.Proofs.Ytbkabnhkclbepaa.K
open Go.Ev
set_option linter.unusedSimpArgs false
set_option linter.unusedVariables false
set_option maxRecDepth 10000
def withinB (n l m : Int) : Bool := decide (n ≥ l) && decide (n ≤ m)
theorem program_within_ev (n l m : Int) : callZ (evL T) n_program_within [(.v (.int .i64 (n))), (.v (.int .i64 (l))), (.v (.int .i64 (m)))] = some (.v (.bool (withinB n l m))) := by
  rw [callZ, evL_code ext_program_within code_program_within]
  by_cases h1 : n ≥ l <;> simp only [withinB, c_program_within, h1, Go.Ev.runFunc, Go.Ev.exec, Go.Ev.evOpers, Go.Ev.evOper, Go.Ev.item_op, Go.Ev.evOp, Go.Ev.Opnd.ev, Go.Ev.Env.get, Go.Ev.Env.set, Go.Ev.Env.unset, Go.Ev.look, Go.Ev.argVars, Go.Ev.bin_leq, Go.Ev.bin_geq, Go.Ev.resVals, Go.Ev.resVal, Go.Ev.resOf, Go.Ev.kill, Go.Ev.leave, Go.Ev.storeLo, Go.Ev.lo_v, Go.Ev.frz_lo, ↓Go.Ev.obind, ↓reduceIte, List.length_cons, List.length_nil, List.take_nil, Nat.reduceAdd, Nat.reduceEqDiff, reduceCtorEq, decide_true, decide_false, Bool.true_and, Bool.false_eq_true, and_self, Nat.zero_add, eq_self, Bool.false_and]
/-- The operands of an instruction, as the program looks at them. -/
def operP (x : OpI) (n ps : Int) : Bool :=
  if x.code = 1 then withinB x.a 1 1099511627776 && (decide (x.b = 0) && decide (x.c = 0))
  else if x.code = 2 then decide (x.a ≥ 0) && (withinB x.b (-1073741824) 1073741824 && withinB x.c 1 1099511627776)
  else if x.code = 3 then withinB x.a 1 1099511627776 && (withinB x.b 0 (n - 1) && decide (x.c = 0))
  else if x.code = 5 then withinB x.a 0 (ps - 1) && (withinB x.b 1 1099511627776 && decide (x.c = 0))
  else if x.code = 6 then withinB x.a 0 1 && (withinB x.b (-1073741824) 1073741824 && decide (x.c = 0))
  else if x.code = 7 then withinB x.a 0 1 && (withinB x.b (-1073741824) 1073741824 && withinB x.c 0 (n - 1))
  else decide (x.a = 0) && (decide (x.b = 0) && decide (x.c = 0))
theorem operP_eq (x : OpI) (n ps : Int) : operP x n ps = operB x n ps := by
  obtain ⟨k, a, b, c⟩ := x
  have e1 : ∀ a m : Int, withinB a 0 (m - 1) = (decide (a ≥ 0) && decide (a < m)) := fun a m => by
    unfold withinB; congr 1; exact decide_eq_decide.2 (by omega)
  have e2 : ∀ a : Int, withinB a 0 1 = (decide (a ≥ 0) && decide (a < 2)) := fun a => e1 a 2
  have e3 : ∀ a : Int, withinB a 1 1099511627776 = delayB a := fun a => rfl
  have e4 : ∀ a : Int, withinB a (-1073741824) 1073741824 = valueB a := fun a => rfl
  simp only [operP, operB, e1, e2, e3, e4, Bool.and_assoc]
section
variable (n ps lps look : Int) (x : OpI)
def okZ (b : Bool) (e : Int) : Int := if b = true then 0 else e
theorem checker_code_ev : (evL T).call n_program_checker_code [(.agg [(.v (.int .i64 (n))), (.v (.int .i64 (ps))), (.v (.int .i64 (lps))), (.v (.int .i64 (look)))]), (.agg [(.v (.int .i64 (x.code))), (.v (.int .i64 (x.a))), (.v (.int .i64 (x.b))), (.v (.int .i64 (x.c)))])] [.row 4 [[(.v (.int .i64 (n))), (.v (.int .i64 (ps))), (.v (.int .i64 (lps))), (.v (.int .i64 (look)))]] 0, .row 4 [[(.v (.int .i64 (x.code))), (.v (.int .i64 (x.a))), (.v (.int .i64 (x.b))), (.v (.int .i64 (x.c)))]] 0] = some ((.v (.int .i64 (okZ (codeB x) 22))), [.row 4 [[(.v (.int .i64 (n))), (.v (.int .i64 (ps))), (.v (.int .i64 (lps))), (.v (.int .i64 (look)))]] 0, .row 4 [[(.v (.int .i64 (x.code))), (.v (.int .i64 (x.a))), (.v (.int .i64 (x.b))), (.v (.int .i64 (x.c)))]] 0]) := by
  rw [evL_code ext_program_checker_code code_program_checker_code]
  have e : codeB x = withinB x.code 1 8 := rfl
  rw [e]
  cases h : withinB x.code 1 8 <;> simp only [c_program_checker_code, program_within_ev, h, okZ, Go.Ev.runFunc, Go.Ev.exec, Go.Ev.evOpers, Go.Ev.evOper, Go.Ev.item_op, Go.Ev.item_P, Go.Ev.evOp, Go.Ev.evs, Go.Ev.Opnd.ev, Go.Ev.Env.get, Go.Ev.Env.set, Go.Ev.look, Go.Ev.argVars, Go.Ev.cellsAt, Go.Ev.loadC, Go.Ev.AV.cells, Go.Ev.plains, Go.Ev.AV.plain, Go.Ev.resVals, Go.Ev.resVal, Go.Ev.resOf, Go.Ev.kill, Go.Ev.leave, Go.Ev.storeLo, Go.Ev.SObj.lo, Go.Ev.lo_v, Go.Ev.los_nil, Go.Ev.los_cons, Go.Ev.loss_nil, Go.Ev.loss_cons, ↓Go.Ev.obind, ↓reduceIte, List.length_cons, List.length_nil, List.take_succ_cons, List.take_nil, List.drop_zero, List.head?_cons, Nat.reduceAdd, Nat.reduceEqDiff, reduceCtorEq, Bool.and_self, Bool.not_true, Bool.not_false, Bool.false_eq_true, and_self, ne_eq, not_false_eq_true, List.cons_ne_nil, Nat.zero_add, eq_self]
theorem checker_target_ev : (evL T).call n_program_checker_target [(.agg [(.v (.int .i64 (n))), (.v (.int .i64 (ps))), (.v (.int .i64 (lps))), (.v (.int .i64 (look)))]), (.agg [(.v (.int .i64 (x.code))), (.v (.int .i64 (x.a))), (.v (.int .i64 (x.b))), (.v (.int .i64 (x.c)))])] [.row 4 [[(.v (.int .i64 (n))), (.v (.int .i64 (ps))), (.v (.int .i64 (lps))), (.v (.int .i64 (look)))]] 0, .row 4 [[(.v (.int .i64 (x.code))), (.v (.int .i64 (x.a))), (.v (.int .i64 (x.b))), (.v (.int .i64 (x.c)))]] 0] = some ((.v (.int .i64 (okZ (tgtB lps x) 23))), [.row 4 [[(.v (.int .i64 (n))), (.v (.int .i64 (ps))), (.v (.int .i64 (lps))), (.v (.int .i64 (look)))]] 0, .row 4 [[(.v (.int .i64 (x.code))), (.v (.int .i64 (x.a))), (.v (.int .i64 (x.b))), (.v (.int .i64 (x.c)))]] 0]) := by
  rw [evL_code ext_program_checker_target code_program_checker_target]
  by_cases h1 : x.code = 2 <;> by_cases h2 : x.a ≥ lps <;> simp only [c_program_checker_target, tgtB, h1, h2, okZ, Go.Ev.runFunc, Go.Ev.exec, Go.Ev.evOpers, Go.Ev.evOper, Go.Ev.item_op, Go.Ev.evOp, Go.Ev.Opnd.ev, Go.Ev.Env.get, Go.Ev.Env.set, Go.Ev.Env.unset, Go.Ev.look, Go.Ev.argVars, Go.Ev.cellsAt, Go.Ev.loadC, Go.Ev.AV.cells, Go.Ev.plains, Go.Ev.AV.plain, Go.Ev.bin_eql, Go.Ev.bin_geq, Go.Ev.resVals, Go.Ev.resVal, Go.Ev.resOf, Go.Ev.kill, Go.Ev.leave, Go.Ev.storeLo, Go.Ev.SObj.lo, Go.Ev.lo_v, Go.Ev.los_nil, Go.Ev.los_cons, Go.Ev.loss_nil, Go.Ev.loss_cons, ↓Go.Ev.obind, ↓reduceIte, List.length_cons, List.length_nil, List.take_succ_cons, List.take_nil, List.drop_succ_cons, List.drop_zero, List.head?_cons, Nat.reduceAdd, Nat.reduceEqDiff, reduceCtorEq, decide_true, decide_false, Bool.and_self, Bool.and_true, Bool.not_true, Bool.not_false, Bool.false_eq_true, and_self, ne_eq, not_false_eq_true, List.cons_ne_nil, Nat.zero_add, eq_self, Bool.and_false]
theorem checker_early_ev : (evL T).call n_program_checker_early [(.agg [(.v (.int .i64 (n))), (.v (.int .i64 (ps))), (.v (.int .i64 (lps))), (.v (.int .i64 (look)))]), (.agg [(.v (.int .i64 (x.code))), (.v (.int .i64 (x.a))), (.v (.int .i64 (x.b))), (.v (.int .i64 (x.c)))])] [.row 4 [[(.v (.int .i64 (n))), (.v (.int .i64 (ps))), (.v (.int .i64 (lps))), (.v (.int .i64 (look)))]] 0, .row 4 [[(.v (.int .i64 (x.code))), (.v (.int .i64 (x.a))), (.v (.int .i64 (x.b))), (.v (.int .i64 (x.c)))]] 0] = some ((.v (.int .i64 (okZ (earlyB look x) 21))), [.row 4 [[(.v (.int .i64 (n))), (.v (.int .i64 (ps))), (.v (.int .i64 (lps))), (.v (.int .i64 (look)))]] 0, .row 4 [[(.v (.int .i64 (x.code))), (.v (.int .i64 (x.a))), (.v (.int .i64 (x.b))), (.v (.int .i64 (x.c)))]] 0]) := by
  rw [evL_code ext_program_checker_early code_program_checker_early]
  by_cases h1 : x.code = 2 <;> by_cases h2 : x.c < look <;> simp only [c_program_checker_early, earlyB, h1, h2, okZ, Go.Ev.runFunc, Go.Ev.exec, Go.Ev.evOpers, Go.Ev.evOper, Go.Ev.item_op, Go.Ev.evOp, Go.Ev.Opnd.ev, Go.Ev.Env.get, Go.Ev.Env.set, Go.Ev.Env.unset, Go.Ev.look, Go.Ev.argVars, Go.Ev.cellsAt, Go.Ev.loadC, Go.Ev.AV.cells, Go.Ev.plains, Go.Ev.AV.plain, Go.Ev.bin_eql, Go.Ev.bin_lss, Go.Ev.resVals, Go.Ev.resVal, Go.Ev.resOf, Go.Ev.kill, Go.Ev.leave, Go.Ev.storeLo, Go.Ev.SObj.lo, Go.Ev.lo_v, Go.Ev.los_nil, Go.Ev.los_cons, Go.Ev.loss_nil, Go.Ev.loss_cons, ↓Go.Ev.obind, ↓reduceIte, List.length_cons, List.length_nil, List.take_succ_cons, List.take_nil, List.drop_succ_cons, List.drop_zero, List.head?_cons, Nat.reduceAdd, Nat.reduceEqDiff, reduceCtorEq, decide_true, decide_false, Bool.and_self, Bool.and_true, Bool.not_true, Bool.not_false, Bool.false_eq_true, and_self, ne_eq, not_false_eq_true, List.cons_ne_nil, Nat.zero_add, eq_self, Bool.and_false]
theorem checker_operands_ev (hn : IntKind.i64.wrap (n - 1) = n - 1) (hp : IntKind.i64.wrap (ps - 1) = ps - 1) :
    (evL T).call n_program_checker_operands [(.agg [(.v (.int .i64 (n))), (.v (.int .i64 (ps))), (.v (.int .i64 (lps))), (.v (.int .i64 (look)))]), (.agg [(.v (.int .i64 (x.code))), (.v (.int .i64 (x.a))), (.v (.int .i64 (x.b))), (.v (.int .i64 (x.c)))])] [.row 4 [[(.v (.int .i64 (n))), (.v (.int .i64 (ps))), (.v (.int .i64 (lps))), (.v (.int .i64 (look)))]] 0, .row 4 [[(.v (.int .i64 (x.code))), (.v (.int .i64 (x.a))), (.v (.int .i64 (x.b))), (.v (.int .i64 (x.c)))]] 0] = some ((.v (.int .i64 (okZ (operB x n ps) 22))), [.row 4 [[(.v (.int .i64 (n))), (.v (.int .i64 (ps))), (.v (.int .i64 (lps))), (.v (.int .i64 (look)))]] 0, .row 4 [[(.v (.int .i64 (x.code))), (.v (.int .i64 (x.a))), (.v (.int .i64 (x.b))), (.v (.int .i64 (x.c)))]] 0]) := by
  rw [evL_code ext_program_checker_operands code_program_checker_operands, ← operP_eq]
  obtain ⟨k, a, b, c⟩ := x
  simp only [operP]
  have e0 : ∀ z : Int, ((0 : Int) == z) = decide (z = 0) := fun z => by rw [Bool.eq_iff_iff, beq_iff_eq, decide_eq_true_eq]; exact eq_comm
  by_cases k1 : k = 1
  · subst k1
    cases h1 : withinB a 1 1099511627776 <;> by_cases h2 : b = 0 <;> by_cases h3 : c = 0 <;> simp only [c_program_checker_operands, program_within_ev, h1, h2, h3, e0, okZ, Go.Ev.runFunc, Go.Ev.exec, Go.Ev.evOpers, Go.Ev.evOper, Go.Ev.item_op, Go.Ev.item_P, Go.Ev.evOp, Go.Ev.evs, Go.Ev.Opnd.ev, Go.Ev.Env.get, Go.Ev.Env.set, Go.Ev.Env.unset, Go.Ev.look, Go.Ev.argVars, Go.Ev.cellsAt, Go.Ev.loadC, Go.Ev.fillP, Go.Ev.AV.cells, Go.Ev.AV.uc, Go.Ev.plains, Go.Ev.AV.plain, Go.Ev.bin_eql, Go.Ev.eqCells, Go.Ev.resVals, Go.Ev.resVal, Go.Ev.resOf, Go.Ev.kill, Go.Ev.leave, Go.Ev.storeLo, Go.Ev.SObj.lo, Go.Ev.lo_v, Go.Ev.los_nil, Go.Ev.los_cons, Go.Ev.loss_nil, Go.Ev.loss_cons, ↓Go.Ev.obind, ↓reduceIte, List.length_cons, List.length_nil, List.getElem?_cons_zero, List.getElem?_cons_succ, List.take_succ_cons, List.take_zero, List.take_nil, List.drop_succ_cons, List.drop_zero, List.drop_nil, List.cons_append, List.nil_append, List.append_nil, List.set_cons_zero, List.set_cons_succ, List.head?_cons, Nat.reduceAdd, Nat.reduceEqDiff, Nat.reduceLeDiff, Int.reduceNeg, reduceCtorEq, decide_true, decide_false, Bool.and_self, Bool.and_true, Bool.not_true, Bool.not_false, Bool.false_eq_true, Bool.true_eq_false, and_self, ne_eq, not_false_eq_true, List.cons_ne_nil, Nat.zero_add, Nat.le_refl, eq_self, beq_self_eq_true, Bool.and_false]
  by_cases k2 : k = 2
  · subst k2
    by_cases h1 : a ≥ 0 <;> cases h2 : withinB b (-1073741824) 1073741824 <;> cases h3 : withinB c 1 1099511627776 <;> simp only [c_program_checker_operands, program_within_ev, h1, h2, h3, okZ, Go.Ev.runFunc, Go.Ev.exec, Go.Ev.evOpers, Go.Ev.evOper, Go.Ev.item_op, Go.Ev.item_P, Go.Ev.evOp, Go.Ev.evs, Go.Ev.Opnd.ev, Go.Ev.Env.get, Go.Ev.Env.set, Go.Ev.Env.unset, Go.Ev.look, Go.Ev.argVars, Go.Ev.cellsAt, Go.Ev.loadC, Go.Ev.fillP, Go.Ev.AV.cells, Go.Ev.AV.uc, Go.Ev.plains, Go.Ev.AV.plain, Go.Ev.bin_eql, Go.Ev.bin_geq, Go.Ev.eqCells, Go.Ev.resVals, Go.Ev.resVal, Go.Ev.resOf, Go.Ev.kill, Go.Ev.leave, Go.Ev.storeLo, Go.Ev.SObj.lo, Go.Ev.lo_v, Go.Ev.los_nil, Go.Ev.los_cons, Go.Ev.loss_nil, Go.Ev.loss_cons, ↓Go.Ev.obind, ↓reduceIte, List.length_cons, List.length_nil, List.getElem?_cons_zero, List.getElem?_cons_succ, List.take_succ_cons, List.take_zero, List.take_nil, List.drop_succ_cons, List.drop_zero, List.drop_nil, List.cons_append, List.nil_append, List.append_nil, List.set_cons_zero, List.set_cons_succ, List.head?_cons, Nat.reduceAdd, Nat.reduceEqDiff, Nat.reduceLeDiff, Int.reduceEq, Int.reduceNeg, reduceCtorEq, decide_true, decide_false, Bool.and_self, Bool.and_true, Bool.not_true, Bool.not_false, Bool.false_eq_true, Bool.true_eq_false, and_self, ne_eq, not_false_eq_true, List.cons_ne_nil, Nat.zero_add, Nat.le_refl, eq_self, beq_self_eq_true, Bool.and_false]
  by_cases k3 : k = 3
  · subst k3
    cases h1 : withinB a 1 1099511627776 <;> cases h2 : withinB b 0 (n - 1) <;> by_cases h3 : c = 0 <;> simp only [c_program_checker_operands, program_within_ev, hn, h1, h2, h3, e0, okZ, Go.Ev.runFunc, Go.Ev.exec, Go.Ev.evOpers, Go.Ev.evOper, Go.Ev.item_op, Go.Ev.item_P, Go.Ev.evOp, Go.Ev.evs, Go.Ev.Opnd.ev, Go.Ev.Env.get, Go.Ev.Env.set, Go.Ev.Env.unset, Go.Ev.look, Go.Ev.argVars, Go.Ev.cellsAt, Go.Ev.loadC, Go.Ev.fillP, Go.Ev.AV.cells, Go.Ev.AV.uc, Go.Ev.plains, Go.Ev.AV.plain, Go.Ev.bin_sub, Go.Ev.bin_eql, Go.Ev.eqCells, Go.Ev.resVals, Go.Ev.resVal, Go.Ev.resOf, Go.Ev.kill, Go.Ev.leave, Go.Ev.storeLo, Go.Ev.SObj.lo, Go.Ev.lo_v, Go.Ev.los_nil, Go.Ev.los_cons, Go.Ev.loss_nil, Go.Ev.loss_cons, ↓Go.Ev.obind, ↓reduceIte, List.length_cons, List.length_nil, List.getElem?_cons_zero, List.getElem?_cons_succ, List.take_succ_cons, List.take_zero, List.take_nil, List.drop_succ_cons, List.drop_zero, List.drop_nil, List.cons_append, List.nil_append, List.append_nil, List.set_cons_zero, List.set_cons_succ, List.head?_cons, Nat.reduceAdd, Nat.reduceEqDiff, Nat.reduceLeDiff, Int.reduceEq, Int.reduceNeg, reduceCtorEq, decide_true, decide_false, Bool.and_self, Bool.and_true, Bool.not_true, Bool.not_false, Bool.false_eq_true, Bool.true_eq_false, and_self, ne_eq, not_false_eq_true, List.cons_ne_nil, Nat.zero_add, Nat.le_refl, eq_self, beq_self_eq_true, Bool.and_false]
  by_cases k5 : k = 5
  · subst k5
    cases h1 : withinB a 0 (ps - 1) <;> cases h2 : withinB b 1 1099511627776 <;> by_cases h3 : c = 0 <;> simp only [c_program_checker_operands, program_within_ev, hp, h1, h2, h3, e0, okZ, Go.Ev.runFunc, Go.Ev.exec, Go.Ev.evOpers, Go.Ev.evOper, Go.Ev.item_op, Go.Ev.item_P, Go.Ev.evOp, Go.Ev.evs, Go.Ev.Opnd.ev, Go.Ev.Env.get, Go.Ev.Env.set, Go.Ev.Env.unset, Go.Ev.look, Go.Ev.argVars, Go.Ev.cellsAt, Go.Ev.loadC, Go.Ev.fillP, Go.Ev.AV.cells, Go.Ev.AV.uc, Go.Ev.plains, Go.Ev.AV.plain, Go.Ev.bin_sub, Go.Ev.bin_eql, Go.Ev.eqCells, Go.Ev.resVals, Go.Ev.resVal, Go.Ev.resOf, Go.Ev.kill, Go.Ev.leave, Go.Ev.storeLo, Go.Ev.SObj.lo, Go.Ev.lo_v, Go.Ev.los_nil, Go.Ev.los_cons, Go.Ev.loss_nil, Go.Ev.loss_cons, ↓Go.Ev.obind, ↓reduceIte, List.length_cons, List.length_nil, List.getElem?_cons_zero, List.getElem?_cons_succ, List.take_succ_cons, List.take_zero, List.take_nil, List.drop_succ_cons, List.drop_zero, List.drop_nil, List.cons_append, List.nil_append, List.append_nil, List.set_cons_zero, List.set_cons_succ, List.head?_cons, Nat.reduceAdd, Nat.reduceEqDiff, Nat.reduceLeDiff, Int.reduceEq, Int.reduceNeg, reduceCtorEq, decide_true, decide_false, Bool.and_self, Bool.and_true, Bool.not_true, Bool.not_false, Bool.false_eq_true, Bool.true_eq_false, and_self, ne_eq, not_false_eq_true, List.cons_ne_nil, Nat.zero_add, Nat.le_refl, eq_self, beq_self_eq_true, Bool.and_false]
  by_cases k6 : k = 6
  · subst k6
    cases h1 : withinB a 0 1 <;> cases h2 : withinB b (-1073741824) 1073741824 <;> by_cases h3 : c = 0 <;> simp only [c_program_checker_operands, program_within_ev, h1, h2, h3, e0, okZ, Go.Ev.runFunc, Go.Ev.exec, Go.Ev.evOpers, Go.Ev.evOper, Go.Ev.item_op, Go.Ev.item_P, Go.Ev.evOp, Go.Ev.evs, Go.Ev.Opnd.ev, Go.Ev.Env.get, Go.Ev.Env.set, Go.Ev.Env.unset, Go.Ev.look, Go.Ev.argVars, Go.Ev.cellsAt, Go.Ev.loadC, Go.Ev.fillP, Go.Ev.AV.cells, Go.Ev.AV.uc, Go.Ev.plains, Go.Ev.AV.plain, Go.Ev.bin_eql, Go.Ev.eqCells, Go.Ev.resVals, Go.Ev.resVal, Go.Ev.resOf, Go.Ev.kill, Go.Ev.leave, Go.Ev.storeLo, Go.Ev.SObj.lo, Go.Ev.lo_v, Go.Ev.los_nil, Go.Ev.los_cons, Go.Ev.loss_nil, Go.Ev.loss_cons, ↓Go.Ev.obind, ↓reduceIte, List.length_cons, List.length_nil, List.getElem?_cons_zero, List.getElem?_cons_succ, List.take_succ_cons, List.take_zero, List.take_nil, List.drop_succ_cons, List.drop_zero, List.drop_nil, List.cons_append, List.nil_append, List.append_nil, List.set_cons_zero, List.set_cons_succ, List.head?_cons, Nat.reduceAdd, Nat.reduceEqDiff, Nat.reduceLeDiff, Int.reduceEq, Int.reduceNeg, reduceCtorEq, decide_true, decide_false, Bool.and_self, Bool.and_true, Bool.not_true, Bool.not_false, Bool.false_eq_true, Bool.true_eq_false, and_self, ne_eq, not_false_eq_true, List.cons_ne_nil, Nat.zero_add, Nat.le_refl, eq_self, beq_self_eq_true, Bool.and_false]
  by_cases k7 : k = 7
  · subst k7
    cases h1 : withinB a 0 1 <;> cases h2 : withinB b (-1073741824) 1073741824 <;> cases h3 : withinB c 0 (n - 1) <;> simp only [c_program_checker_operands, program_within_ev, hn, h1, h2, h3, okZ, Go.Ev.runFunc, Go.Ev.exec, Go.Ev.evOpers, Go.Ev.evOper, Go.Ev.item_op, Go.Ev.item_P, Go.Ev.evOp, Go.Ev.evs, Go.Ev.Opnd.ev, Go.Ev.Env.get, Go.Ev.Env.set, Go.Ev.Env.unset, Go.Ev.look, Go.Ev.argVars, Go.Ev.cellsAt, Go.Ev.loadC, Go.Ev.fillP, Go.Ev.AV.cells, Go.Ev.AV.uc, Go.Ev.plains, Go.Ev.AV.plain, Go.Ev.bin_sub, Go.Ev.bin_eql, Go.Ev.eqCells, Go.Ev.resVals, Go.Ev.resVal, Go.Ev.resOf, Go.Ev.kill, Go.Ev.leave, Go.Ev.storeLo, Go.Ev.SObj.lo, Go.Ev.lo_v, Go.Ev.los_nil, Go.Ev.los_cons, Go.Ev.loss_nil, Go.Ev.loss_cons, ↓Go.Ev.obind, ↓reduceIte, List.length_cons, List.length_nil, List.getElem?_cons_zero, List.getElem?_cons_succ, List.take_succ_cons, List.take_zero, List.take_nil, List.drop_succ_cons, List.drop_zero, List.drop_nil, List.cons_append, List.nil_append, List.append_nil, List.set_cons_zero, List.set_cons_succ, List.head?_cons, Nat.reduceAdd, Nat.reduceEqDiff, Nat.reduceLeDiff, Int.reduceEq, Int.reduceNeg, reduceCtorEq, decide_true, decide_false, Bool.and_self, Bool.and_true, Bool.not_true, Bool.not_false, Bool.false_eq_true, Bool.true_eq_false, and_self, ne_eq, not_false_eq_true, List.cons_ne_nil, Nat.zero_add, Nat.le_refl, eq_self, beq_self_eq_true, Bool.and_false]
  by_cases h1 : a = 0 <;> by_cases h2 : b = 0 <;> by_cases h3 : c = 0 <;> simp only [c_program_checker_operands, k1, k2, k3, k5, k6, k7, h1, h2, h3, e0, okZ, Go.Ev.runFunc, Go.Ev.exec, Go.Ev.evOpers, Go.Ev.evOper, Go.Ev.item_op, Go.Ev.evOp, Go.Ev.Opnd.ev, Go.Ev.Env.get, Go.Ev.Env.set, Go.Ev.look, Go.Ev.argVars, Go.Ev.cellsAt, Go.Ev.loadC, Go.Ev.fillP, Go.Ev.AV.cells, Go.Ev.AV.uc, Go.Ev.plains, Go.Ev.AV.plain, Go.Ev.bin_eql, Go.Ev.eqCells, Go.Ev.resVals, Go.Ev.resVal, Go.Ev.resOf, Go.Ev.kill, Go.Ev.leave, Go.Ev.storeLo, Go.Ev.SObj.lo, Go.Ev.lo_v, Go.Ev.los_nil, Go.Ev.los_cons, Go.Ev.loss_nil, Go.Ev.loss_cons, ↓Go.Ev.obind, ↓reduceIte, List.length_cons, List.length_nil, List.getElem?_cons_zero, List.getElem?_cons_succ, List.take_succ_cons, List.take_zero, List.take_nil, List.drop_succ_cons, List.drop_zero, List.drop_nil, List.cons_append, List.nil_append, List.append_nil, List.set_cons_zero, List.set_cons_succ, List.head?_cons, Nat.reduceAdd, Nat.reduceEqDiff, Nat.reduceLeDiff, Int.reduceNeg, reduceCtorEq, decide_true, decide_false, Bool.and_self, Bool.and_true, Bool.not_true, Bool.not_false, Bool.false_eq_true, and_self, ne_eq, not_false_eq_true, List.cons_ne_nil, Nat.zero_add, Nat.le_refl, eq_self, beq_self_eq_true, Bool.and_false]
end
end Go.Proofs.Ytbkabnhkclbepaa.K

namespace Go.Proofs.Ytbkabnhkclbepaa.K
open Go.Ev
set_option linter.unusedSimpArgs false
set_option linter.unusedVariables false
section
variable (p : List OpI) (c : Bool) (n ps lps look : Int)
def rulesL (n ps lps look : Int) : List (List AV) := [[.fn (.func n_program_checker_code) [(.agg [(.v (.int .i64 (n))), (.v (.int .i64 (ps))), (.v (.int .i64 (lps))), (.v (.int .i64 (look)))])] []], [.fn (.func n_program_checker_operands) [(.agg [(.v (.int .i64 (n))), (.v (.int .i64 (ps))), (.v (.int .i64 (lps))), (.v (.int .i64 (look)))])] []], [.fn (.func n_program_checker_target) [(.agg [(.v (.int .i64 (n))), (.v (.int .i64 (ps))), (.v (.int .i64 (lps))), (.v (.int .i64 (look)))])] []], [.fn (.func n_program_checker_early) [(.agg [(.v (.int .i64 (n))), (.v (.int .i64 (ps))), (.v (.int .i64 (lps))), (.v (.int .i64 (look)))])] []]]
theorem pcheck_inner (k : Nat) (j : Int) (f : OpI → Bool) (err : Int) (herr : err ≠ 0) (hl : p.length ≤ 16) (hr : ∀ x, (evL T).call k [(.agg [(.v (.int .i64 (n))), (.v (.int .i64 (ps))), (.v (.int .i64 (lps))), (.v (.int .i64 (look)))]), (.agg [(.v (.int .i64 (x.code))), (.v (.int .i64 (x.a))), (.v (.int .i64 (x.b))), (.v (.int .i64 (x.c)))])] [.row 4 [[(.v (.int .i64 (n))), (.v (.int .i64 (ps))), (.v (.int .i64 (lps))), (.v (.int .i64 (look)))]] 0, .row 4 [[(.v (.int .i64 (x.code))), (.v (.int .i64 (x.a))), (.v (.int .i64 (x.b))), (.v (.int .i64 (x.c)))]] 0] = some ((.v (.int .i64 (okZ (f x) err))), [.row 4 [[(.v (.int .i64 (n))), (.v (.int .i64 (ps))), (.v (.int .i64 (lps))), (.v (.int .i64 (look)))]] 0, .row 4 [[(.v (.int .i64 (x.code))), (.v (.int .i64 (x.a))), (.v (.int .i64 (x.b))), (.v (.int .i64 (x.c)))]] 0])) :
    ∃ y, itB (exec (evL T) itL none c_program_Check_L2) (Ev.settle [0, 11, 33, 34, 35, 39, 40, 41] true 1) ⟨[(0, (.fsl ((p).map OpI.r) c)), (11, .fn (.func k) [(.agg [(.v (.int .i64 (n))), (.v (.int .i64 (ps))), (.v (.int .i64 (lps))), (.v (.int .i64 (look)))])] []), (33, (.fsl [[.fn (.func n_program_checker_code) [(.agg [(.v (.int .i64 (n))), (.v (.int .i64 (ps))), (.v (.int .i64 (lps))), (.v (.int .i64 (look)))])] []], [.fn (.func n_program_checker_operands) [(.agg [(.v (.int .i64 (n))), (.v (.int .i64 (ps))), (.v (.int .i64 (lps))), (.v (.int .i64 (look)))])] []], [.fn (.func n_program_checker_target) [(.agg [(.v (.int .i64 (n))), (.v (.int .i64 (ps))), (.v (.int .i64 (lps))), (.v (.int .i64 (look)))])] []], [.fn (.func n_program_checker_early) [(.agg [(.v (.int .i64 (n))), (.v (.int .i64 (ps))), (.v (.int .i64 (lps))), (.v (.int .i64 (look)))])] []]] true)), (34, (.v (.int .i64 (4)))), (35, (.v (.int .i64 (j)))), (39, (.fsl ((p).map OpI.r) c)), (40, (.v (.int .i64 (p.length)))), (41, (.v (.int .i64 (0))))], []⟩ [.row 4 [[(.v (.int .i64 (n))), (.v (.int .i64 (ps))), (.v (.int .i64 (lps))), (.v (.int .i64 (look)))]] 0] = some y ∧
      (p.all f = true ∧ (y.1 = .exit 2 ∧ y.2.1.marks = [] ∧ y.2.2 = [.row 4 [[(.v (.int .i64 (n))), (.v (.int .i64 (ps))), (.v (.int .i64 (lps))), (.v (.int .i64 (look)))]] 0] ∧ Ev.look y.2.1.vars 0 = some (.fsl ((p).map OpI.r) c) ∧ Ev.look y.2.1.vars 33 = some (.fsl [[.fn (.func n_program_checker_code) [(.agg [(.v (.int .i64 (n))), (.v (.int .i64 (ps))), (.v (.int .i64 (lps))), (.v (.int .i64 (look)))])] []], [.fn (.func n_program_checker_operands) [(.agg [(.v (.int .i64 (n))), (.v (.int .i64 (ps))), (.v (.int .i64 (lps))), (.v (.int .i64 (look)))])] []], [.fn (.func n_program_checker_target) [(.agg [(.v (.int .i64 (n))), (.v (.int .i64 (ps))), (.v (.int .i64 (lps))), (.v (.int .i64 (look)))])] []], [.fn (.func n_program_checker_early) [(.agg [(.v (.int .i64 (n))), (.v (.int .i64 (ps))), (.v (.int .i64 (lps))), (.v (.int .i64 (look)))])] []]] true) ∧ Ev.look y.2.1.vars 34 = some (.v (.int .i64 (4))) ∧ Ev.look y.2.1.vars 35 = some (.v (.int .i64 (j)))) ∨
      p.all f = false ∧ ∃ x, p.find? (fun x => !f x) = some x ∧ (y.1 = .ret ∧ y.2.1.marks = [] ∧ y.2.2 = [.row 4 [[(.v (.int .i64 (n))), (.v (.int .i64 (ps))), (.v (.int .i64 (lps))), (.v (.int .i64 (look)))]] 0, .row 4 [[(.v (.int .i64 (x.code))), (.v (.int .i64 (x.a))), (.v (.int .i64 (x.b))), (.v (.int .i64 (x.c)))]] 0] ∧ Ev.look y.2.1.vars 8 = some (.v (.int .i64 (err))))) := by
  refine itB_find p (fun i => ⟨[(0, (.fsl ((p).map OpI.r) c)), (11, .fn (.func k) [(.agg [(.v (.int .i64 (n))), (.v (.int .i64 (ps))), (.v (.int .i64 (lps))), (.v (.int .i64 (look)))])] []), (33, (.fsl [[.fn (.func n_program_checker_code) [(.agg [(.v (.int .i64 (n))), (.v (.int .i64 (ps))), (.v (.int .i64 (lps))), (.v (.int .i64 (look)))])] []], [.fn (.func n_program_checker_operands) [(.agg [(.v (.int .i64 (n))), (.v (.int .i64 (ps))), (.v (.int .i64 (lps))), (.v (.int .i64 (look)))])] []], [.fn (.func n_program_checker_target) [(.agg [(.v (.int .i64 (n))), (.v (.int .i64 (ps))), (.v (.int .i64 (lps))), (.v (.int .i64 (look)))])] []], [.fn (.func n_program_checker_early) [(.agg [(.v (.int .i64 (n))), (.v (.int .i64 (ps))), (.v (.int .i64 (lps))), (.v (.int .i64 (look)))])] []]] true)), (34, (.v (.int .i64 (4)))), (35, (.v (.int .i64 (j)))), (39, (.fsl ((p).map OpI.r) c)), (40, (.v (.int .i64 (p.length)))), (41, (.v (.int .i64 (i))))], []⟩) [.row 4 [[(.v (.int .i64 (n))), (.v (.int .i64 (ps))), (.v (.int .i64 (lps))), (.v (.int .i64 (look)))]] 0] f _ (fun x y => _) ?_ ?_ ?_
  · intro i x hi hx hp
    have hi' : (i : Int) < (p.length : Int) := by omega
    have hw : IntKind.i64.wrap ((i : Int) + 1) = ((i + 1 : Nat) : Int) := by rw [w64_small (by omega) (by omega)]; simp
    have h1 := hr x
    rw [hp] at h1
    simp only [okZ, if_true] at h1
    simp only [c_program_Check_L2, Int.natCast_nonneg, Int.toNat_natCast, List.getElem?_map, Option.map_some, OpI.r, hx, hi', hw, h1, prog_lo, Go.Ev.exec, Go.Ev.evOpers, Go.Ev.evOper, Go.Ev.item_op, Go.Ev.item_v, Go.Ev.evOp, Go.Ev.evs, Go.Ev.Opnd.ev, Go.Ev.Env.get, Go.Ev.Env.set, Go.Ev.look, Go.Ev.cellsAt, Go.Ev.loadC, Go.Ev.AV.cells, Go.Ev.plains, Go.Ev.AV.plain, Go.Ev.bin_add, Go.Ev.bin_neq, Go.Ev.bin_lss, Go.Ev.settle, Go.Ev.keep, Go.Ev.varsLo, Go.Ev.marksLo, Go.Ev.storeLo, Go.Ev.SObj.lo, Go.Ev.lo_v, Go.Ev.lo_agg, Go.Ev.lo_fsl, Go.Ev.lo_fn, Go.Ev.los_nil, Go.Ev.los_cons, Go.Ev.loss_nil, Go.Ev.loss_cons, ↓Go.Ev.obind, Go.Ev.it1, ↓reduceIte, List.length_cons, List.length_nil, List.getElem?_cons_zero, List.getElem?_cons_succ, List.take_succ_cons, List.take_zero, List.take_nil, List.drop_succ_cons, List.drop_zero, List.drop_nil, List.cons_append, List.nil_append, List.append_nil, List.set_cons_zero, List.set_cons_succ, Nat.reduceAdd, Nat.reduceEqDiff, reduceCtorEq, decide_true, decide_false, Bool.and_self, Bool.false_eq_true, and_self, ne_eq, not_false_eq_true, not_true_eq_false, List.cons_ne_nil, Nat.zero_add, Nat.le_refl, eq_self]
  · intro i x hi hx hp
    have hi' : (i : Int) < (p.length : Int) := by omega
    have h1 := hr x
    rw [hp] at h1
    simp only [okZ, Bool.false_eq_true, if_false] at h1
    simp only [c_program_Check_L2, Int.natCast_nonneg, Int.toNat_natCast, List.getElem?_map, Option.map_some, OpI.r, hx, hi', h1, herr, Go.Ev.exec, Go.Ev.evOpers, Go.Ev.evOper, Go.Ev.item_op, Go.Ev.item_v, Go.Ev.evOp, Go.Ev.evs, Go.Ev.Opnd.ev, Go.Ev.Env.get, Go.Ev.Env.set, Go.Ev.look, Go.Ev.cellsAt, Go.Ev.loadC, Go.Ev.AV.cells, Go.Ev.plains, Go.Ev.AV.plain, Go.Ev.bin_neq, Go.Ev.bin_lss, ↓Go.Ev.obind, Go.Ev.it1, ↓reduceIte, List.length_cons, List.length_nil, List.getElem?_cons_zero, List.getElem?_cons_succ, List.take_succ_cons, List.take_zero, List.take_nil, List.drop_succ_cons, List.drop_zero, List.drop_nil, List.cons_append, List.nil_append, List.append_nil, List.set_cons_zero, List.set_cons_succ, Nat.reduceAdd, Nat.reduceEqDiff, reduceCtorEq, decide_true, Bool.and_self, and_self, ne_eq, not_false_eq_true, List.cons_ne_nil, Nat.zero_add, Nat.le_refl, eq_self]
    exact ⟨_, rfl, rfl, rfl, rfl, rfl⟩
  · simp only [c_program_Check_L2, Int.lt_irrefl, Go.Ev.exec, Go.Ev.evOpers, Go.Ev.evOper, Go.Ev.item_op, Go.Ev.evOp, Go.Ev.Opnd.ev, Go.Ev.Env.get, Go.Ev.Env.set, Go.Ev.look, Go.Ev.bin_lss, ↓Go.Ev.obind, Go.Ev.it1, ↓reduceIte, Nat.reduceEqDiff, reduceCtorEq, decide_false, Bool.false_eq_true, eq_self]
    exact ⟨_, rfl, rfl, rfl, rfl, rfl, rfl, rfl, rfl⟩
theorem pcheck_step (hl : p.length ≤ 16) (j : Nat) (k : Nat) (f : OpI → Bool) (err : Int) (herr : err ≠ 0) (hj : (rulesL n ps lps look)[j]? = some [.fn (.func k) [(.agg [(.v (.int .i64 (n))), (.v (.int .i64 (ps))), (.v (.int .i64 (lps))), (.v (.int .i64 (look)))])] []]) (hr : ∀ x, (evL T).call k [(.agg [(.v (.int .i64 (n))), (.v (.int .i64 (ps))), (.v (.int .i64 (lps))), (.v (.int .i64 (look)))]), (.agg [(.v (.int .i64 (x.code))), (.v (.int .i64 (x.a))), (.v (.int .i64 (x.b))), (.v (.int .i64 (x.c)))])] [.row 4 [[(.v (.int .i64 (n))), (.v (.int .i64 (ps))), (.v (.int .i64 (lps))), (.v (.int .i64 (look)))]] 0, .row 4 [[(.v (.int .i64 (x.code))), (.v (.int .i64 (x.a))), (.v (.int .i64 (x.b))), (.v (.int .i64 (x.c)))]] 0] = some ((.v (.int .i64 (okZ (f x) err))), [.row 4 [[(.v (.int .i64 (n))), (.v (.int .i64 (ps))), (.v (.int .i64 (lps))), (.v (.int .i64 (look)))]] 0, .row 4 [[(.v (.int .i64 (x.code))), (.v (.int .i64 (x.a))), (.v (.int .i64 (x.b))), (.v (.int .i64 (x.c)))]] 0])) :
    (p.all f = true ∧ it1 (exec (evL T) itL none c_program_Check_L1) (Ev.settle [0, 33, 34, 35] true 1) ⟨[(0, (.fsl ((p).map OpI.r) c)), (33, (.fsl [[.fn (.func n_program_checker_code) [(.agg [(.v (.int .i64 (n))), (.v (.int .i64 (ps))), (.v (.int .i64 (lps))), (.v (.int .i64 (look)))])] []], [.fn (.func n_program_checker_operands) [(.agg [(.v (.int .i64 (n))), (.v (.int .i64 (ps))), (.v (.int .i64 (lps))), (.v (.int .i64 (look)))])] []], [.fn (.func n_program_checker_target) [(.agg [(.v (.int .i64 (n))), (.v (.int .i64 (ps))), (.v (.int .i64 (lps))), (.v (.int .i64 (look)))])] []], [.fn (.func n_program_checker_early) [(.agg [(.v (.int .i64 (n))), (.v (.int .i64 (ps))), (.v (.int .i64 (lps))), (.v (.int .i64 (look)))])] []]] true)), (34, (.v (.int .i64 (4)))), (35, (.v (.int .i64 ((j : Int)))))], []⟩ [.row 4 [[(.v (.int .i64 (n))), (.v (.int .i64 (ps))), (.v (.int .i64 (lps))), (.v (.int .i64 (look)))]] 0] = some (.inl (⟨[(0, (.fsl ((p).map OpI.r) c)), (33, (.fsl [[.fn (.func n_program_checker_code) [(.agg [(.v (.int .i64 (n))), (.v (.int .i64 (ps))), (.v (.int .i64 (lps))), (.v (.int .i64 (look)))])] []], [.fn (.func n_program_checker_operands) [(.agg [(.v (.int .i64 (n))), (.v (.int .i64 (ps))), (.v (.int .i64 (lps))), (.v (.int .i64 (look)))])] []], [.fn (.func n_program_checker_target) [(.agg [(.v (.int .i64 (n))), (.v (.int .i64 (ps))), (.v (.int .i64 (lps))), (.v (.int .i64 (look)))])] []], [.fn (.func n_program_checker_early) [(.agg [(.v (.int .i64 (n))), (.v (.int .i64 (ps))), (.v (.int .i64 (lps))), (.v (.int .i64 (look)))])] []]] true)), (34, (.v (.int .i64 (4)))), (35, (.v (.int .i64 (((j + 1 : Nat) : Int)))))], []⟩, [.row 4 [[(.v (.int .i64 (n))), (.v (.int .i64 (ps))), (.v (.int .i64 (lps))), (.v (.int .i64 (look)))]] 0]))) ∨
    (p.all f = false ∧ ∃ y, it1 (exec (evL T) itL none c_program_Check_L1) (Ev.settle [0, 33, 34, 35] true 1) ⟨[(0, (.fsl ((p).map OpI.r) c)), (33, (.fsl [[.fn (.func n_program_checker_code) [(.agg [(.v (.int .i64 (n))), (.v (.int .i64 (ps))), (.v (.int .i64 (lps))), (.v (.int .i64 (look)))])] []], [.fn (.func n_program_checker_operands) [(.agg [(.v (.int .i64 (n))), (.v (.int .i64 (ps))), (.v (.int .i64 (lps))), (.v (.int .i64 (look)))])] []], [.fn (.func n_program_checker_target) [(.agg [(.v (.int .i64 (n))), (.v (.int .i64 (ps))), (.v (.int .i64 (lps))), (.v (.int .i64 (look)))])] []], [.fn (.func n_program_checker_early) [(.agg [(.v (.int .i64 (n))), (.v (.int .i64 (ps))), (.v (.int .i64 (lps))), (.v (.int .i64 (look)))])] []]] true)), (34, (.v (.int .i64 (4)))), (35, (.v (.int .i64 ((j : Int)))))], []⟩ [.row 4 [[(.v (.int .i64 (n))), (.v (.int .i64 (ps))), (.v (.int .i64 (lps))), (.v (.int .i64 (look)))]] 0] = some (.inr y) ∧ y.1 = .ret ∧ y.2.1.marks = [] ∧ (∃ x : OpI, y.2.2 = [.row 4 [[(.v (.int .i64 (n))), (.v (.int .i64 (ps))), (.v (.int .i64 (lps))), (.v (.int .i64 (look)))]] 0, .row 4 [[(.v (.int .i64 (x.code))), (.v (.int .i64 (x.a))), (.v (.int .i64 (x.b))), (.v (.int .i64 (x.c)))]] 0]) ∧ Ev.look y.2.1.vars 8 = some (.v (.int .i64 (err)))) := by
  obtain ⟨⟨y, e, σ⟩, k1, k2⟩ := pcheck_inner p c n ps lps look k j f err herr hl hr
  have hj4 : j < 4 := (List.getElem?_eq_some_iff.1 hj).1
  have hi' : (j : Int) < 4 := by omega
  have hw : IntKind.i64.wrap ((j : Int) + 1) = ((j + 1 : Nat) : Int) := by rw [w64_small (by omega) (by omega)]; simp
  simp only [rulesL] at hj
  simp only at k2
  rcases k2 with ⟨q1, rfl, q2, rfl, q3, q4, q5, q6⟩ | ⟨q1, x, _, rfl, q2, rfl, q3⟩
  · refine .inl ⟨q1, ?_⟩
    simp only [c_program_Check_L1, Int.natCast_nonneg, Int.toNat_natCast, hi', hw, hj, k1, q2, q3, q4, q5, q6, prog_lo, Go.Ev.exec, Go.Ev.evOpers, Go.Ev.evOper, Go.Ev.item_op, Go.Ev.evOp, Go.Ev.Opnd.ev, Go.Ev.Env.get, Go.Ev.Env.set, Go.Ev.look, Go.Ev.cellsAt, Go.Ev.loadC, Go.Ev.bin_add, Go.Ev.bin_lss, Go.Ev.settle, Go.Ev.keep, Go.Ev.varsLo, Go.Ev.marksLo, Go.Ev.storeLo, Go.Ev.SObj.lo, Go.Ev.lo_v, Go.Ev.lo_agg, Go.Ev.lo_fsl, Go.Ev.lo_fn, Go.Ev.los_nil, Go.Ev.los_cons, Go.Ev.loss_nil, Go.Ev.loss_cons, List.length_map, ↓Go.Ev.obind, ↓Go.Ev.itL_itB, Go.Ev.it1, ↓reduceIte, List.length_cons, List.length_nil, List.take_succ_cons, List.take_nil, List.head?_cons, Nat.reduceEqDiff, reduceCtorEq, decide_true, Bool.and_self, Bool.false_eq_true, and_self, Nat.zero_add, eq_self]
  · refine .inr ⟨q1, ?_⟩
    simp only [c_program_Check_L1, Int.natCast_nonneg, Int.toNat_natCast, hi', hj, k1, prog_lo, Go.Ev.exec, Go.Ev.evOpers, Go.Ev.evOper, Go.Ev.item_op, Go.Ev.evOp, Go.Ev.Opnd.ev, Go.Ev.Env.get, Go.Ev.Env.set, Go.Ev.look, Go.Ev.cellsAt, Go.Ev.loadC, Go.Ev.bin_lss, Go.Ev.settle, Go.Ev.keep, Go.Ev.varsLo, Go.Ev.marksLo, Go.Ev.storeLo, Go.Ev.SObj.lo, Go.Ev.lo_v, Go.Ev.lo_agg, Go.Ev.lo_fsl, Go.Ev.lo_fn, Go.Ev.los_nil, Go.Ev.los_cons, Go.Ev.loss_nil, Go.Ev.loss_cons, List.length_map, ↓Go.Ev.obind, ↓Go.Ev.itL_itB, Go.Ev.it1, ↓reduceIte, List.length_cons, List.length_nil, List.take_succ_cons, List.take_nil, List.head?_cons, Nat.reduceEqDiff, reduceCtorEq, decide_true, Bool.and_self, Bool.false_eq_true, and_self, Nat.zero_add, eq_self]
    exact ⟨_, rfl, rfl, q2, ⟨x, rfl⟩, q3⟩
def restZ : Int := if p.all codeB = false then 22 else if p.all (fun x => operB x n ps) = false then 22 else if p.all (tgtB lps) = false then 23 else if p.all (earlyB look) = false then 21 else 0
theorem pcheck_outer (hl : p.length ≤ 16) (hn : IntKind.i64.wrap (n - 1) = n - 1) (hp : IntKind.i64.wrap (ps - 1) = ps - 1) :
    ∃ y, itB (exec (evL T) itL none c_program_Check_L1) (Ev.settle [0, 33, 34, 35] true 1) ⟨[(0, (.fsl ((p).map OpI.r) c)), (33, (.fsl [[.fn (.func n_program_checker_code) [(.agg [(.v (.int .i64 (n))), (.v (.int .i64 (ps))), (.v (.int .i64 (lps))), (.v (.int .i64 (look)))])] []], [.fn (.func n_program_checker_operands) [(.agg [(.v (.int .i64 (n))), (.v (.int .i64 (ps))), (.v (.int .i64 (lps))), (.v (.int .i64 (look)))])] []], [.fn (.func n_program_checker_target) [(.agg [(.v (.int .i64 (n))), (.v (.int .i64 (ps))), (.v (.int .i64 (lps))), (.v (.int .i64 (look)))])] []], [.fn (.func n_program_checker_early) [(.agg [(.v (.int .i64 (n))), (.v (.int .i64 (ps))), (.v (.int .i64 (lps))), (.v (.int .i64 (look)))])] []]] true)), (34, (.v (.int .i64 (4)))), (35, (.v (.int .i64 (0))))], []⟩ [.row 4 [[(.v (.int .i64 (n))), (.v (.int .i64 (ps))), (.v (.int .i64 (lps))), (.v (.int .i64 (look)))]] 0] = some y ∧
      (restZ p n ps lps look = 0 ∧ (y.1 = .exit 0 ∧ y.2.1.marks = [] ∧ y.2.2 = [.row 4 [[(.v (.int .i64 (n))), (.v (.int .i64 (ps))), (.v (.int .i64 (lps))), (.v (.int .i64 (look)))]] 0]) ∨ (y.1 = .ret ∧ y.2.1.marks = [] ∧ (∃ x : OpI, y.2.2 = [.row 4 [[(.v (.int .i64 (n))), (.v (.int .i64 (ps))), (.v (.int .i64 (lps))), (.v (.int .i64 (look)))]] 0, .row 4 [[(.v (.int .i64 (x.code))), (.v (.int .i64 (x.a))), (.v (.int .i64 (x.b))), (.v (.int .i64 (x.c)))]] 0]) ∧ Ev.look y.2.1.vars 8 = some (.v (.int .i64 (restZ p n ps lps look))))) := by
  have s0 := pcheck_step p c n ps lps look hl 0 n_program_checker_code codeB 22 (by decide) rfl (checker_code_ev n ps lps look)
  have s1 := pcheck_step p c n ps lps look hl 1 n_program_checker_operands (fun x => operB x n ps) 22 (by decide) rfl (fun x => checker_operands_ev n ps lps look x hn hp)
  have s2 := pcheck_step p c n ps lps look hl 2 n_program_checker_target (tgtB lps) 23 (by decide) rfl (checker_target_ev n ps lps look)
  have s3 := pcheck_step p c n ps lps look hl 3 n_program_checker_early (earlyB look) 21 (by decide) rfl (checker_early_ev n ps lps look)
  have last : ∃ y, it1 (exec (evL T) itL none c_program_Check_L1) (Ev.settle [0, 33, 34, 35] true 1) ⟨[(0, (.fsl ((p).map OpI.r) c)), (33, (.fsl [[.fn (.func n_program_checker_code) [(.agg [(.v (.int .i64 (n))), (.v (.int .i64 (ps))), (.v (.int .i64 (lps))), (.v (.int .i64 (look)))])] []], [.fn (.func n_program_checker_operands) [(.agg [(.v (.int .i64 (n))), (.v (.int .i64 (ps))), (.v (.int .i64 (lps))), (.v (.int .i64 (look)))])] []], [.fn (.func n_program_checker_target) [(.agg [(.v (.int .i64 (n))), (.v (.int .i64 (ps))), (.v (.int .i64 (lps))), (.v (.int .i64 (look)))])] []], [.fn (.func n_program_checker_early) [(.agg [(.v (.int .i64 (n))), (.v (.int .i64 (ps))), (.v (.int .i64 (lps))), (.v (.int .i64 (look)))])] []]] true)), (34, (.v (.int .i64 (4)))), (35, (.v (.int .i64 (4))))], []⟩ [.row 4 [[(.v (.int .i64 (n))), (.v (.int .i64 (ps))), (.v (.int .i64 (lps))), (.v (.int .i64 (look)))]] 0] = some (.inr y) ∧ y.1 = .exit 0 ∧ y.2.1.marks = [] ∧ y.2.2 = [.row 4 [[(.v (.int .i64 (n))), (.v (.int .i64 (ps))), (.v (.int .i64 (lps))), (.v (.int .i64 (look)))]] 0] := by
    simp only [c_program_Check_L1, Int.lt_irrefl, Go.Ev.exec, Go.Ev.evOpers, Go.Ev.evOper, Go.Ev.item_op, Go.Ev.evOp, Go.Ev.Opnd.ev, Go.Ev.Env.get, Go.Ev.Env.set, Go.Ev.look, Go.Ev.bin_lss, ↓Go.Ev.obind, Go.Ev.it1, ↓reduceIte, Nat.reduceEqDiff, reduceCtorEq, decide_false, Bool.false_eq_true, eq_self]
    exact ⟨_, rfl, rfl, rfl, rfl⟩
  unfold restZ
  rcases s0 with ⟨a0, b0⟩ | ⟨a0, y, b0, b1, b2, b3, b4⟩
  · rcases s1 with ⟨a1, c0⟩ | ⟨a1, y, c0, c1, c2, c3, c4⟩
    · rcases s2 with ⟨a2, d0⟩ | ⟨a2, y, d0, d1, d2, d3, d4⟩
      · rcases s3 with ⟨a3, f0⟩ | ⟨a3, y, f0, f1, f2, f3, f4⟩
        · obtain ⟨y, l0, l1, l2, l3⟩ := last
          refine ⟨y, ?_, .inl ⟨by rw [a0, a1, a2, a3]; rfl, l1, l2, l3⟩⟩
          exact itB_step b0 (itB_step c0 (itB_step d0 (itB_step f0 (itB_stop l0))))
        · refine ⟨y, ?_, .inr ⟨f1, f2, f3, by rw [a0, a1, a2, a3]; exact f4⟩⟩
          exact itB_step b0 (itB_step c0 (itB_step d0 (itB_stop f0)))
      · refine ⟨y, ?_, .inr ⟨d1, d2, d3, by rw [a0, a1, a2]; exact d4⟩⟩
        exact itB_step b0 (itB_step c0 (itB_stop d0))
    · refine ⟨y, ?_, .inr ⟨c1, c2, c3, by rw [a0, a1]; exact c4⟩⟩
      exact itB_step b0 (itB_stop c0)
  · refine ⟨y, ?_, .inr ⟨b1, b2, b3, by rw [a0]; exact b4⟩⟩
    exact itB_stop b0
end
theorem program_Check_ev (p : List OpI) (c : Bool) (ps lps look : Int) (hl62 : p.length < 2 ^ 62) (hp : IntKind.i64.wrap (ps - 1) = ps - 1) : callZ (evL T) n_program_Check [(.fsl ((p).map OpI.r) c), (.v (.int .i64 (ps))), (.v (.int .i64 (lps))), (.v (.int .i64 (look)))] = some (.v (.int .i64 (checkZ p ps lps look))) := by
  have h0 := program_within_ev p.length 1 16
  rw [callZ, evL_code ext_program_Check code_program_Check]
  have hz : checkZ p ps lps look = if 1 ≤ p.length ∧ p.length ≤ 16 then restZ p p.length ps lps look else 22 := by
    unfold checkZ restZ shapeB
    by_cases h : 1 ≤ p.length ∧ p.length ≤ 16
    · simp only [h, and_self, decide_true, Bool.true_and, if_true]
    · simp only [h, decide_false, Bool.false_and, if_true, if_false]
  have hw : withinB p.length 1 16 = decide (1 ≤ p.length ∧ p.length ≤ 16) := by
    unfold withinB
    rw [← Bool.decide_and]
    exact decide_eq_decide.2 (by omega)
  rw [hw] at h0
  rw [hz]
  have hrep : List.replicate 4 ([.v .nilFunc] : List AV) = [[.v .nilFunc], [.v .nilFunc], [.v .nilFunc], [.v .nilFunc]] := rfl
  by_cases h : 1 ≤ p.length ∧ p.length ≤ 16
  · have hn : IntKind.i64.wrap ((p.length : Int) - 1) = (p.length : Int) - 1 := w64_small (by omega) (by omega)
    obtain ⟨⟨y, e, σ⟩, k1, k2⟩ := pcheck_outer p c p.length ps lps look h.2 hn hp
    simp only at k2
    simp only [h, and_self, decide_true] at h0
    rcases k2 with ⟨q1, rfl, q2, rfl⟩ | ⟨rfl, q2, ⟨x, rfl⟩, q3⟩
    · simp only [h, and_self, if_true, q1]
      simp only [c_program_Check, hrep, h0, k1, q2, prog_lo, Go.Ev.runFunc, Go.Ev.exec, Go.Ev.evOpers, Go.Ev.evOper, Go.Ev.item_op, Go.Ev.item_P, Go.Ev.evOp, Go.Ev.evs, Go.Ev.Opnd.ev, Go.Ev.Env.get, Go.Ev.Env.set, Go.Ev.look, Go.Ev.argVars, Go.Ev.cellsAt, Go.Ev.loadC, Go.Ev.fillP, Go.Ev.fillR, Go.Ev.AV.cells, Go.Ev.AV.uc, Go.Ev.plains, Go.Ev.AV.plain, Go.Ev.resVals, Go.Ev.resVal, Go.Ev.resOf, Go.Ev.kill, Go.Ev.leave, Go.Ev.settle, Go.Ev.keep, Go.Ev.varsLo, Go.Ev.marksLo, Go.Ev.storeLo, Go.Ev.SObj.lo, Go.Ev.lo_v, Go.Ev.lo_agg, Go.Ev.lo_fsl, Go.Ev.lo_fn, Go.Ev.los_nil, Go.Ev.los_cons, Go.Ev.loss_nil, Go.Ev.loss_cons, Go.Ev.frz_lo, List.length_map, ↓Go.Ev.obind, ↓Go.Ev.itL_itB, ↓reduceIte, List.length_cons, List.length_nil, List.getElem?_cons_zero, List.take_succ_cons, List.take_zero, List.take_nil, List.drop_succ_cons, List.drop_zero, List.drop_nil, List.cons_append, List.nil_append, List.append_nil, List.set_cons_zero, List.set_cons_succ, Nat.reduceAdd, Nat.reduceEqDiff, Nat.reduceMul, Nat.reduceLT, Nat.reduceLeDiff, Nat.reducePow, Int.cast_ofNat_Int, reduceCtorEq, Bool.and_self, Bool.not_true, Bool.false_eq_true, and_self, ne_eq, not_false_eq_true, List.cons_ne_nil, Nat.zero_add, Nat.lt_add_one, Nat.le_refl, eq_self]
    · simp only [h, and_self, if_true]
      simp only [c_program_Check, hrep, h0, k1, q2, q3, prog_lo, Go.Ev.runFunc, Go.Ev.exec, Go.Ev.evOpers, Go.Ev.evOper, Go.Ev.item_op, Go.Ev.item_P, Go.Ev.evOp, Go.Ev.evs, Go.Ev.Opnd.ev, Go.Ev.Env.get, Go.Ev.Env.set, Go.Ev.look, Go.Ev.argVars, Go.Ev.cellsAt, Go.Ev.loadC, Go.Ev.fillP, Go.Ev.fillR, Go.Ev.AV.cells, Go.Ev.AV.uc, Go.Ev.plains, Go.Ev.AV.plain, Go.Ev.resVals, Go.Ev.resVal, Go.Ev.resOf, Go.Ev.kill, Go.Ev.leave, Go.Ev.settle, Go.Ev.keep, Go.Ev.varsLo, Go.Ev.marksLo, Go.Ev.storeLo, Go.Ev.SObj.lo, Go.Ev.lo_v, Go.Ev.lo_agg, Go.Ev.lo_fsl, Go.Ev.lo_fn, Go.Ev.los_nil, Go.Ev.los_cons, Go.Ev.loss_nil, Go.Ev.loss_cons, Go.Ev.frz_lo, List.length_map, ↓Go.Ev.obind, ↓Go.Ev.itL_itB, ↓reduceIte, List.length_cons, List.length_nil, List.getElem?_cons_zero, List.take_succ_cons, List.take_zero, List.take_nil, List.drop_succ_cons, List.drop_zero, List.drop_nil, List.cons_append, List.nil_append, List.append_nil, List.set_cons_zero, List.set_cons_succ, Nat.reduceAdd, Nat.reduceEqDiff, Nat.reduceMul, Nat.reduceLT, Nat.reduceLeDiff, Nat.reducePow, Int.cast_ofNat_Int, reduceCtorEq, Bool.and_self, Bool.not_true, Bool.false_eq_true, and_self, ne_eq, not_false_eq_true, List.cons_ne_nil, Nat.zero_add, Nat.lt_add_one, Nat.le_refl, eq_self]
  · simp only [h, decide_false] at h0
    simp only [h, if_false]
    simp only [c_program_Check, h0, Go.Ev.runFunc, Go.Ev.exec, Go.Ev.evOpers, Go.Ev.evOper, Go.Ev.item_op, Go.Ev.item_P, Go.Ev.evOp, Go.Ev.evs, Go.Ev.Opnd.ev, Go.Ev.Env.get, Go.Ev.Env.set, Go.Ev.look, Go.Ev.argVars, Go.Ev.resVals, Go.Ev.resVal, Go.Ev.resOf, Go.Ev.kill, Go.Ev.leave, Go.Ev.storeLo, Go.Ev.lo_v, Go.Ev.los_nil, Go.Ev.los_cons, Go.Ev.frz_lo, List.length_map, ↓Go.Ev.obind, ↓reduceIte, List.length_cons, List.length_nil, List.take_nil, Nat.reduceAdd, reduceCtorEq, Bool.and_self, Bool.not_false, and_self, Nat.zero_add, eq_self]
end Go.Proofs.Ytbkabnhkclbepaa.K
