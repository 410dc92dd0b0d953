/- For every input the statement of this claim returns true: texts of its proof, joined (part 11). -/
import Derived.ChangeShapes
import Derived.ChangeOld
import Derived.ChangeArms
import Derived.DataReads
import Derived.Carry
import Derived.ChangeSame
import Derived.OpenShut
import Derived.Handed
import Derived.RowKit3
import Derived.ChangeAt
import Derived.Test.YthkjkdbjgpeigaaRows
import Derived.WalkKit
import Derived.ProofKit
import Derived.Test.YthkjkdbjgpeigaaE3
import Derived.Test.YthkjkdbjgpeigaaGA06
import Derived.Test.YthkjkdbjgpeigaaGA09
set_option linter.unusedSectionVars false
set_option linter.unusedSimpArgs false
set_option linter.unusedVariables false
namespace Go.Proofs.Ythkjkdbjgpeigaa.K
open Go.Ev
set_option linter.unusedSimpArgs false
set_option linter.unusedVariables false
section
variable (p : List OpI) (c : Bool) (n ps lps look : Int)
def rulesL (n ps lps look : Int) : List (List AV) := [[.fn (.func n_program_checker_code) [(.agg [(.v (.int .i64 (n))), (.v (.int .i64 (ps))), (.v (.int .i64 (lps))), (.v (.int .i64 (look)))])] []], [.fn (.func n_program_checker_operands) [(.agg [(.v (.int .i64 (n))), (.v (.int .i64 (ps))), (.v (.int .i64 (lps))), (.v (.int .i64 (look)))])] []], [.fn (.func n_program_checker_target) [(.agg [(.v (.int .i64 (n))), (.v (.int .i64 (ps))), (.v (.int .i64 (lps))), (.v (.int .i64 (look)))])] []], [.fn (.func n_program_checker_early) [(.agg [(.v (.int .i64 (n))), (.v (.int .i64 (ps))), (.v (.int .i64 (lps))), (.v (.int .i64 (look)))])] []]]
theorem pcheck_inner (k : Nat) (j : Int) (f : OpI → Bool) (err : Int) (herr : err ≠ 0) (hl : p.length ≤ 16) (hr : ∀ x, (evL T).call k [(.agg [(.v (.int .i64 (n))), (.v (.int .i64 (ps))), (.v (.int .i64 (lps))), (.v (.int .i64 (look)))]), (.agg [(.v (.int .i64 (x.code))), (.v (.int .i64 (x.a))), (.v (.int .i64 (x.b))), (.v (.int .i64 (x.c)))])] [.row 4 [[(.v (.int .i64 (n))), (.v (.int .i64 (ps))), (.v (.int .i64 (lps))), (.v (.int .i64 (look)))]] 0, .row 4 [[(.v (.int .i64 (x.code))), (.v (.int .i64 (x.a))), (.v (.int .i64 (x.b))), (.v (.int .i64 (x.c)))]] 0] = some ((.v (.int .i64 (okZ (f x) err))), [.row 4 [[(.v (.int .i64 (n))), (.v (.int .i64 (ps))), (.v (.int .i64 (lps))), (.v (.int .i64 (look)))]] 0, .row 4 [[(.v (.int .i64 (x.code))), (.v (.int .i64 (x.a))), (.v (.int .i64 (x.b))), (.v (.int .i64 (x.c)))]] 0])) :
    ∃ y, itB (exec (evL T) itL none c_program_Check_L2) (Ev.settle [0, 11, 33, 34, 35, 39, 40, 41] true 1) ⟨[(0, (.fsl ((p).map OpI.r) c)), (11, .fn (.func k) [(.agg [(.v (.int .i64 (n))), (.v (.int .i64 (ps))), (.v (.int .i64 (lps))), (.v (.int .i64 (look)))])] []), (33, (.fsl [[.fn (.func n_program_checker_code) [(.agg [(.v (.int .i64 (n))), (.v (.int .i64 (ps))), (.v (.int .i64 (lps))), (.v (.int .i64 (look)))])] []], [.fn (.func n_program_checker_operands) [(.agg [(.v (.int .i64 (n))), (.v (.int .i64 (ps))), (.v (.int .i64 (lps))), (.v (.int .i64 (look)))])] []], [.fn (.func n_program_checker_target) [(.agg [(.v (.int .i64 (n))), (.v (.int .i64 (ps))), (.v (.int .i64 (lps))), (.v (.int .i64 (look)))])] []], [.fn (.func n_program_checker_early) [(.agg [(.v (.int .i64 (n))), (.v (.int .i64 (ps))), (.v (.int .i64 (lps))), (.v (.int .i64 (look)))])] []]] true)), (34, (.v (.int .i64 (4)))), (35, (.v (.int .i64 (j)))), (39, (.fsl ((p).map OpI.r) c)), (40, (.v (.int .i64 (p.length)))), (41, (.v (.int .i64 (0))))], []⟩ [.row 4 [[(.v (.int .i64 (n))), (.v (.int .i64 (ps))), (.v (.int .i64 (lps))), (.v (.int .i64 (look)))]] 0] = some y ∧
      (p.all f = true ∧ (y.1 = .exit 2 ∧ y.2.1.marks = [] ∧ y.2.2 = [.row 4 [[(.v (.int .i64 (n))), (.v (.int .i64 (ps))), (.v (.int .i64 (lps))), (.v (.int .i64 (look)))]] 0] ∧ Ev.look y.2.1.vars 0 = some (.fsl ((p).map OpI.r) c) ∧ Ev.look y.2.1.vars 33 = some (.fsl [[.fn (.func n_program_checker_code) [(.agg [(.v (.int .i64 (n))), (.v (.int .i64 (ps))), (.v (.int .i64 (lps))), (.v (.int .i64 (look)))])] []], [.fn (.func n_program_checker_operands) [(.agg [(.v (.int .i64 (n))), (.v (.int .i64 (ps))), (.v (.int .i64 (lps))), (.v (.int .i64 (look)))])] []], [.fn (.func n_program_checker_target) [(.agg [(.v (.int .i64 (n))), (.v (.int .i64 (ps))), (.v (.int .i64 (lps))), (.v (.int .i64 (look)))])] []], [.fn (.func n_program_checker_early) [(.agg [(.v (.int .i64 (n))), (.v (.int .i64 (ps))), (.v (.int .i64 (lps))), (.v (.int .i64 (look)))])] []]] true) ∧ Ev.look y.2.1.vars 34 = some (.v (.int .i64 (4))) ∧ Ev.look y.2.1.vars 35 = some (.v (.int .i64 (j)))) ∨
      p.all f = false ∧ ∃ x, p.find? (fun x => !f x) = some x ∧ (y.1 = .ret ∧ y.2.1.marks = [] ∧ y.2.2 = [.row 4 [[(.v (.int .i64 (n))), (.v (.int .i64 (ps))), (.v (.int .i64 (lps))), (.v (.int .i64 (look)))]] 0, .row 4 [[(.v (.int .i64 (x.code))), (.v (.int .i64 (x.a))), (.v (.int .i64 (x.b))), (.v (.int .i64 (x.c)))]] 0] ∧ Ev.look y.2.1.vars 8 = some (.v (.int .i64 (err))))) := by
  refine itB_find p (fun i => ⟨[(0, (.fsl ((p).map OpI.r) c)), (11, .fn (.func k) [(.agg [(.v (.int .i64 (n))), (.v (.int .i64 (ps))), (.v (.int .i64 (lps))), (.v (.int .i64 (look)))])] []), (33, (.fsl [[.fn (.func n_program_checker_code) [(.agg [(.v (.int .i64 (n))), (.v (.int .i64 (ps))), (.v (.int .i64 (lps))), (.v (.int .i64 (look)))])] []], [.fn (.func n_program_checker_operands) [(.agg [(.v (.int .i64 (n))), (.v (.int .i64 (ps))), (.v (.int .i64 (lps))), (.v (.int .i64 (look)))])] []], [.fn (.func n_program_checker_target) [(.agg [(.v (.int .i64 (n))), (.v (.int .i64 (ps))), (.v (.int .i64 (lps))), (.v (.int .i64 (look)))])] []], [.fn (.func n_program_checker_early) [(.agg [(.v (.int .i64 (n))), (.v (.int .i64 (ps))), (.v (.int .i64 (lps))), (.v (.int .i64 (look)))])] []]] true)), (34, (.v (.int .i64 (4)))), (35, (.v (.int .i64 (j)))), (39, (.fsl ((p).map OpI.r) c)), (40, (.v (.int .i64 (p.length)))), (41, (.v (.int .i64 (i))))], []⟩) [.row 4 [[(.v (.int .i64 (n))), (.v (.int .i64 (ps))), (.v (.int .i64 (lps))), (.v (.int .i64 (look)))]] 0] f _ (fun x y => _) ?_ ?_ ?_
  · intro i x hi hx hp
    have hi' : (i : Int) < (p.length : Int) := by omega
    have hw : IntKind.i64.wrap ((i : Int) + 1) = ((i + 1 : Nat) : Int) := by rw [w64_small (by omega) (by omega)]; simp
    have h1 := hr x
    rw [hp] at h1
    simp only [okZ, if_true] at h1
    simp only [c_program_Check_L2, Int.natCast_nonneg, Int.toNat_natCast, List.getElem?_map, Option.map_some, OpI.r, hx, hi', hw, h1, prog_lo, Ev.exec, Ev.evOpers, Ev.evOper, Ev.item_op, Ev.item_v, Ev.evOp, Ev.evs, Ev.Opnd.ev, Ev.Env.get, Ev.Env.set, Ev.look, Ev.cellsAt, Ev.loadC, Ev.AV.cells, Ev.plains, Ev.AV.plain, Ev.bin_add, Ev.bin_neq, Ev.bin_lss, Ev.settle, Ev.keep, Ev.varsLo, Ev.marksLo, Ev.storeLo, Ev.SObj.lo, Ev.lo_v, Ev.lo_agg, Ev.lo_fsl, Ev.lo_fn, Ev.los_nil, Ev.los_cons, Ev.loss_nil, Ev.loss_cons, ↓Ev.obind, Ev.it1, ↓reduceIte, List.length_cons, List.length_nil, List.getElem?_cons_zero, List.getElem?_cons_succ, List.take_succ_cons, List.take_zero, List.take_nil, List.drop_succ_cons, List.drop_zero, List.drop_nil, List.cons_append, List.nil_append, List.append_nil, List.set_cons_zero, List.set_cons_succ, Nat.reduceAdd, Nat.reduceEqDiff, reduceCtorEq, decide_true, decide_false, Bool.and_self, Bool.false_eq_true, and_self, ne_eq, not_false_eq_true, not_true_eq_false, List.cons_ne_nil, Nat.zero_add, Nat.le_refl, eq_self]
  · intro i x hi hx hp
    have hi' : (i : Int) < (p.length : Int) := by omega
    have h1 := hr x
    rw [hp] at h1
    simp only [okZ, Bool.false_eq_true, if_false] at h1
    simp only [c_program_Check_L2, Int.natCast_nonneg, Int.toNat_natCast, List.getElem?_map, Option.map_some, OpI.r, hx, hi', h1, herr, Ev.exec, Ev.evOpers, Ev.evOper, Ev.item_op, Ev.item_v, Ev.evOp, Ev.evs, Ev.Opnd.ev, Ev.Env.get, Ev.Env.set, Ev.look, Ev.cellsAt, Ev.loadC, Ev.AV.cells, Ev.plains, Ev.AV.plain, Ev.bin_neq, Ev.bin_lss, ↓Ev.obind, Ev.it1, ↓reduceIte, List.length_cons, List.length_nil, List.getElem?_cons_zero, List.getElem?_cons_succ, List.take_succ_cons, List.take_zero, List.take_nil, List.drop_succ_cons, List.drop_zero, List.drop_nil, List.cons_append, List.nil_append, List.append_nil, List.set_cons_zero, List.set_cons_succ, Nat.reduceAdd, Nat.reduceEqDiff, reduceCtorEq, decide_true, Bool.and_self, and_self, ne_eq, not_false_eq_true, List.cons_ne_nil, Nat.zero_add, Nat.le_refl, eq_self]
    exact ⟨_, rfl, rfl, rfl, rfl, rfl⟩
  · simp only [c_program_Check_L2, Int.lt_irrefl, Ev.exec, Ev.evOpers, Ev.evOper, Ev.item_op, Ev.evOp, Ev.Opnd.ev, Ev.Env.get, Ev.Env.set, Ev.look, Ev.bin_lss, ↓Ev.obind, Ev.it1, ↓reduceIte, Nat.reduceEqDiff, reduceCtorEq, decide_false, Bool.false_eq_true, eq_self]
    exact ⟨_, rfl, rfl, rfl, rfl, rfl, rfl, rfl, rfl⟩
theorem pcheck_step (hl : p.length ≤ 16) (j : Nat) (k : Nat) (f : OpI → Bool) (err : Int) (herr : err ≠ 0) (hj : (rulesL n ps lps look)[j]? = some [.fn (.func k) [(.agg [(.v (.int .i64 (n))), (.v (.int .i64 (ps))), (.v (.int .i64 (lps))), (.v (.int .i64 (look)))])] []]) (hr : ∀ x, (evL T).call k [(.agg [(.v (.int .i64 (n))), (.v (.int .i64 (ps))), (.v (.int .i64 (lps))), (.v (.int .i64 (look)))]), (.agg [(.v (.int .i64 (x.code))), (.v (.int .i64 (x.a))), (.v (.int .i64 (x.b))), (.v (.int .i64 (x.c)))])] [.row 4 [[(.v (.int .i64 (n))), (.v (.int .i64 (ps))), (.v (.int .i64 (lps))), (.v (.int .i64 (look)))]] 0, .row 4 [[(.v (.int .i64 (x.code))), (.v (.int .i64 (x.a))), (.v (.int .i64 (x.b))), (.v (.int .i64 (x.c)))]] 0] = some ((.v (.int .i64 (okZ (f x) err))), [.row 4 [[(.v (.int .i64 (n))), (.v (.int .i64 (ps))), (.v (.int .i64 (lps))), (.v (.int .i64 (look)))]] 0, .row 4 [[(.v (.int .i64 (x.code))), (.v (.int .i64 (x.a))), (.v (.int .i64 (x.b))), (.v (.int .i64 (x.c)))]] 0])) :
    (p.all f = true ∧ it1 (exec (evL T) itL none c_program_Check_L1) (Ev.settle [0, 33, 34, 35] true 1) ⟨[(0, (.fsl ((p).map OpI.r) c)), (33, (.fsl [[.fn (.func n_program_checker_code) [(.agg [(.v (.int .i64 (n))), (.v (.int .i64 (ps))), (.v (.int .i64 (lps))), (.v (.int .i64 (look)))])] []], [.fn (.func n_program_checker_operands) [(.agg [(.v (.int .i64 (n))), (.v (.int .i64 (ps))), (.v (.int .i64 (lps))), (.v (.int .i64 (look)))])] []], [.fn (.func n_program_checker_target) [(.agg [(.v (.int .i64 (n))), (.v (.int .i64 (ps))), (.v (.int .i64 (lps))), (.v (.int .i64 (look)))])] []], [.fn (.func n_program_checker_early) [(.agg [(.v (.int .i64 (n))), (.v (.int .i64 (ps))), (.v (.int .i64 (lps))), (.v (.int .i64 (look)))])] []]] true)), (34, (.v (.int .i64 (4)))), (35, (.v (.int .i64 ((j : Int)))))], []⟩ [.row 4 [[(.v (.int .i64 (n))), (.v (.int .i64 (ps))), (.v (.int .i64 (lps))), (.v (.int .i64 (look)))]] 0] = some (.inl (⟨[(0, (.fsl ((p).map OpI.r) c)), (33, (.fsl [[.fn (.func n_program_checker_code) [(.agg [(.v (.int .i64 (n))), (.v (.int .i64 (ps))), (.v (.int .i64 (lps))), (.v (.int .i64 (look)))])] []], [.fn (.func n_program_checker_operands) [(.agg [(.v (.int .i64 (n))), (.v (.int .i64 (ps))), (.v (.int .i64 (lps))), (.v (.int .i64 (look)))])] []], [.fn (.func n_program_checker_target) [(.agg [(.v (.int .i64 (n))), (.v (.int .i64 (ps))), (.v (.int .i64 (lps))), (.v (.int .i64 (look)))])] []], [.fn (.func n_program_checker_early) [(.agg [(.v (.int .i64 (n))), (.v (.int .i64 (ps))), (.v (.int .i64 (lps))), (.v (.int .i64 (look)))])] []]] true)), (34, (.v (.int .i64 (4)))), (35, (.v (.int .i64 (((j + 1 : Nat) : Int)))))], []⟩, [.row 4 [[(.v (.int .i64 (n))), (.v (.int .i64 (ps))), (.v (.int .i64 (lps))), (.v (.int .i64 (look)))]] 0]))) ∨
    (p.all f = false ∧ ∃ y, it1 (exec (evL T) itL none c_program_Check_L1) (Ev.settle [0, 33, 34, 35] true 1) ⟨[(0, (.fsl ((p).map OpI.r) c)), (33, (.fsl [[.fn (.func n_program_checker_code) [(.agg [(.v (.int .i64 (n))), (.v (.int .i64 (ps))), (.v (.int .i64 (lps))), (.v (.int .i64 (look)))])] []], [.fn (.func n_program_checker_operands) [(.agg [(.v (.int .i64 (n))), (.v (.int .i64 (ps))), (.v (.int .i64 (lps))), (.v (.int .i64 (look)))])] []], [.fn (.func n_program_checker_target) [(.agg [(.v (.int .i64 (n))), (.v (.int .i64 (ps))), (.v (.int .i64 (lps))), (.v (.int .i64 (look)))])] []], [.fn (.func n_program_checker_early) [(.agg [(.v (.int .i64 (n))), (.v (.int .i64 (ps))), (.v (.int .i64 (lps))), (.v (.int .i64 (look)))])] []]] true)), (34, (.v (.int .i64 (4)))), (35, (.v (.int .i64 ((j : Int)))))], []⟩ [.row 4 [[(.v (.int .i64 (n))), (.v (.int .i64 (ps))), (.v (.int .i64 (lps))), (.v (.int .i64 (look)))]] 0] = some (.inr y) ∧ y.1 = .ret ∧ y.2.1.marks = [] ∧ (∃ x : OpI, y.2.2 = [.row 4 [[(.v (.int .i64 (n))), (.v (.int .i64 (ps))), (.v (.int .i64 (lps))), (.v (.int .i64 (look)))]] 0, .row 4 [[(.v (.int .i64 (x.code))), (.v (.int .i64 (x.a))), (.v (.int .i64 (x.b))), (.v (.int .i64 (x.c)))]] 0]) ∧ Ev.look y.2.1.vars 8 = some (.v (.int .i64 (err)))) := by
  obtain ⟨⟨y, e, σ⟩, k1, k2⟩ := pcheck_inner p c n ps lps look k j f err herr hl hr
  have hj4 : j < 4 := (List.getElem?_eq_some_iff.1 hj).1
  have hi' : (j : Int) < 4 := by omega
  have hw : IntKind.i64.wrap ((j : Int) + 1) = ((j + 1 : Nat) : Int) := by rw [w64_small (by omega) (by omega)]; simp
  simp only [rulesL] at hj
  simp only at k2
  rcases k2 with ⟨q1, rfl, q2, rfl, q3, q4, q5, q6⟩ | ⟨q1, x, _, rfl, q2, rfl, q3⟩
  · refine .inl ⟨q1, ?_⟩
    simp only [c_program_Check_L1, Int.natCast_nonneg, Int.toNat_natCast, hi', hw, hj, k1, q2, q3, q4, q5, q6, prog_lo, Ev.exec, Ev.evOpers, Ev.evOper, Ev.item_op, Ev.evOp, Ev.Opnd.ev, Ev.Env.get, Ev.Env.set, Ev.look, Ev.cellsAt, Ev.loadC, Ev.bin_add, Ev.bin_lss, Ev.settle, Ev.keep, Ev.varsLo, Ev.marksLo, Ev.storeLo, Ev.SObj.lo, Ev.lo_v, Ev.lo_agg, Ev.lo_fsl, Ev.lo_fn, Ev.los_nil, Ev.los_cons, Ev.loss_nil, Ev.loss_cons, List.length_map, ↓Ev.obind, ↓Ev.itL_itB, Ev.it1, ↓reduceIte, List.length_cons, List.length_nil, List.take_succ_cons, List.take_nil, List.head?_cons, Nat.reduceEqDiff, reduceCtorEq, decide_true, Bool.and_self, Bool.false_eq_true, and_self, Nat.zero_add, eq_self]
  · refine .inr ⟨q1, ?_⟩
    simp only [c_program_Check_L1, Int.natCast_nonneg, Int.toNat_natCast, hi', hj, k1, prog_lo, Ev.exec, Ev.evOpers, Ev.evOper, Ev.item_op, Ev.evOp, Ev.Opnd.ev, Ev.Env.get, Ev.Env.set, Ev.look, Ev.cellsAt, Ev.loadC, Ev.bin_lss, Ev.settle, Ev.keep, Ev.varsLo, Ev.marksLo, Ev.storeLo, Ev.SObj.lo, Ev.lo_v, Ev.lo_agg, Ev.lo_fsl, Ev.lo_fn, Ev.los_nil, Ev.los_cons, Ev.loss_nil, Ev.loss_cons, List.length_map, ↓Ev.obind, ↓Ev.itL_itB, Ev.it1, ↓reduceIte, List.length_cons, List.length_nil, List.take_succ_cons, List.take_nil, List.head?_cons, Nat.reduceEqDiff, reduceCtorEq, decide_true, Bool.and_self, Bool.false_eq_true, and_self, Nat.zero_add, eq_self]
    exact ⟨_, rfl, rfl, q2, ⟨x, rfl⟩, q3⟩
def restZ : Int := if p.all codeB = false then 22 else if p.all (fun x => operB x n ps) = false then 22 else if p.all (tgtB lps) = false then 23 else if p.all (earlyB look) = false then 21 else 0
theorem pcheck_outer (hl : p.length ≤ 16) (hn : IntKind.i64.wrap (n - 1) = n - 1) (hp : IntKind.i64.wrap (ps - 1) = ps - 1) :
    ∃ y, itB (exec (evL T) itL none c_program_Check_L1) (Ev.settle [0, 33, 34, 35] true 1) ⟨[(0, (.fsl ((p).map OpI.r) c)), (33, (.fsl [[.fn (.func n_program_checker_code) [(.agg [(.v (.int .i64 (n))), (.v (.int .i64 (ps))), (.v (.int .i64 (lps))), (.v (.int .i64 (look)))])] []], [.fn (.func n_program_checker_operands) [(.agg [(.v (.int .i64 (n))), (.v (.int .i64 (ps))), (.v (.int .i64 (lps))), (.v (.int .i64 (look)))])] []], [.fn (.func n_program_checker_target) [(.agg [(.v (.int .i64 (n))), (.v (.int .i64 (ps))), (.v (.int .i64 (lps))), (.v (.int .i64 (look)))])] []], [.fn (.func n_program_checker_early) [(.agg [(.v (.int .i64 (n))), (.v (.int .i64 (ps))), (.v (.int .i64 (lps))), (.v (.int .i64 (look)))])] []]] true)), (34, (.v (.int .i64 (4)))), (35, (.v (.int .i64 (0))))], []⟩ [.row 4 [[(.v (.int .i64 (n))), (.v (.int .i64 (ps))), (.v (.int .i64 (lps))), (.v (.int .i64 (look)))]] 0] = some y ∧
      (restZ p n ps lps look = 0 ∧ (y.1 = .exit 0 ∧ y.2.1.marks = [] ∧ y.2.2 = [.row 4 [[(.v (.int .i64 (n))), (.v (.int .i64 (ps))), (.v (.int .i64 (lps))), (.v (.int .i64 (look)))]] 0]) ∨ (y.1 = .ret ∧ y.2.1.marks = [] ∧ (∃ x : OpI, y.2.2 = [.row 4 [[(.v (.int .i64 (n))), (.v (.int .i64 (ps))), (.v (.int .i64 (lps))), (.v (.int .i64 (look)))]] 0, .row 4 [[(.v (.int .i64 (x.code))), (.v (.int .i64 (x.a))), (.v (.int .i64 (x.b))), (.v (.int .i64 (x.c)))]] 0]) ∧ Ev.look y.2.1.vars 8 = some (.v (.int .i64 (restZ p n ps lps look))))) := by
  have s0 := pcheck_step p c n ps lps look hl 0 n_program_checker_code codeB 22 (by decide) rfl (checker_code_ev n ps lps look)
  have s1 := pcheck_step p c n ps lps look hl 1 n_program_checker_operands (fun x => operB x n ps) 22 (by decide) rfl (fun x => checker_operands_ev n ps lps look x hn hp)
  have s2 := pcheck_step p c n ps lps look hl 2 n_program_checker_target (tgtB lps) 23 (by decide) rfl (checker_target_ev n ps lps look)
  have s3 := pcheck_step p c n ps lps look hl 3 n_program_checker_early (earlyB look) 21 (by decide) rfl (checker_early_ev n ps lps look)
  have last : ∃ y, it1 (exec (evL T) itL none c_program_Check_L1) (Ev.settle [0, 33, 34, 35] true 1) ⟨[(0, (.fsl ((p).map OpI.r) c)), (33, (.fsl [[.fn (.func n_program_checker_code) [(.agg [(.v (.int .i64 (n))), (.v (.int .i64 (ps))), (.v (.int .i64 (lps))), (.v (.int .i64 (look)))])] []], [.fn (.func n_program_checker_operands) [(.agg [(.v (.int .i64 (n))), (.v (.int .i64 (ps))), (.v (.int .i64 (lps))), (.v (.int .i64 (look)))])] []], [.fn (.func n_program_checker_target) [(.agg [(.v (.int .i64 (n))), (.v (.int .i64 (ps))), (.v (.int .i64 (lps))), (.v (.int .i64 (look)))])] []], [.fn (.func n_program_checker_early) [(.agg [(.v (.int .i64 (n))), (.v (.int .i64 (ps))), (.v (.int .i64 (lps))), (.v (.int .i64 (look)))])] []]] true)), (34, (.v (.int .i64 (4)))), (35, (.v (.int .i64 (4))))], []⟩ [.row 4 [[(.v (.int .i64 (n))), (.v (.int .i64 (ps))), (.v (.int .i64 (lps))), (.v (.int .i64 (look)))]] 0] = some (.inr y) ∧ y.1 = .exit 0 ∧ y.2.1.marks = [] ∧ y.2.2 = [.row 4 [[(.v (.int .i64 (n))), (.v (.int .i64 (ps))), (.v (.int .i64 (lps))), (.v (.int .i64 (look)))]] 0] := by
    simp only [c_program_Check_L1, Int.lt_irrefl, Ev.exec, Ev.evOpers, Ev.evOper, Ev.item_op, Ev.evOp, Ev.Opnd.ev, Ev.Env.get, Ev.Env.set, Ev.look, Ev.bin_lss, ↓Ev.obind, Ev.it1, ↓reduceIte, Nat.reduceEqDiff, reduceCtorEq, decide_false, Bool.false_eq_true, eq_self]
    exact ⟨_, rfl, rfl, rfl, rfl⟩
  unfold restZ
  rcases s0 with ⟨a0, b0⟩ | ⟨a0, y, b0, b1, b2, b3, b4⟩
  · rcases s1 with ⟨a1, c0⟩ | ⟨a1, y, c0, c1, c2, c3, c4⟩
    · rcases s2 with ⟨a2, d0⟩ | ⟨a2, y, d0, d1, d2, d3, d4⟩
      · rcases s3 with ⟨a3, f0⟩ | ⟨a3, y, f0, f1, f2, f3, f4⟩
        · obtain ⟨y, l0, l1, l2, l3⟩ := last
          refine ⟨y, ?_, .inl ⟨by rw [a0, a1, a2, a3]; rfl, l1, l2, l3⟩⟩
          exact itB_step b0 (itB_step c0 (itB_step d0 (itB_step f0 (itB_stop l0))))
        · refine ⟨y, ?_, .inr ⟨f1, f2, f3, by rw [a0, a1, a2, a3]; exact f4⟩⟩
          exact itB_step b0 (itB_step c0 (itB_step d0 (itB_stop f0)))
      · refine ⟨y, ?_, .inr ⟨d1, d2, d3, by rw [a0, a1, a2]; exact d4⟩⟩
        exact itB_step b0 (itB_step c0 (itB_stop d0))
    · refine ⟨y, ?_, .inr ⟨c1, c2, c3, by rw [a0, a1]; exact c4⟩⟩
      exact itB_step b0 (itB_stop c0)
  · refine ⟨y, ?_, .inr ⟨b1, b2, b3, by rw [a0]; exact b4⟩⟩
    exact itB_stop b0
end
theorem program_Check_ev (p : List OpI) (c : Bool) (ps lps look : Int) (hl62 : p.length < 2 ^ 62) (hp : IntKind.i64.wrap (ps - 1) = ps - 1) : callZ (evL T) n_program_Check [(.fsl ((p).map OpI.r) c), (.v (.int .i64 (ps))), (.v (.int .i64 (lps))), (.v (.int .i64 (look)))] = some (.v (.int .i64 (checkZ p ps lps look))) := by
  have h0 := program_within_ev p.length 1 16
  rw [callZ, evL_code ext_program_Check code_program_Check]
  have hz : checkZ p ps lps look = if 1 ≤ p.length ∧ p.length ≤ 16 then restZ p p.length ps lps look else 22 := by
    unfold checkZ restZ shapeB
    by_cases h : 1 ≤ p.length ∧ p.length ≤ 16
    · simp only [h, and_self, decide_true, Bool.true_and, if_true]
    · simp only [h, decide_false, Bool.false_and, if_true, if_false]
  have hw : withinB p.length 1 16 = decide (1 ≤ p.length ∧ p.length ≤ 16) := by
    unfold withinB
    rw [← Bool.decide_and]
    exact decide_eq_decide.2 (by omega)
  rw [hw] at h0
  rw [hz]
  have hrep : List.replicate 4 ([.v .nilFunc] : List AV) = [[.v .nilFunc], [.v .nilFunc], [.v .nilFunc], [.v .nilFunc]] := rfl
  by_cases h : 1 ≤ p.length ∧ p.length ≤ 16
  · have hn : IntKind.i64.wrap ((p.length : Int) - 1) = (p.length : Int) - 1 := w64_small (by omega) (by omega)
    obtain ⟨⟨y, e, σ⟩, k1, k2⟩ := pcheck_outer p c p.length ps lps look h.2 hn hp
    simp only at k2
    simp only [h, and_self, decide_true] at h0
    rcases k2 with ⟨q1, rfl, q2, rfl⟩ | ⟨rfl, q2, ⟨x, rfl⟩, q3⟩
    · simp only [h, and_self, if_true, q1]
      simp only [c_program_Check, hrep, h0, k1, q2, prog_lo, Ev.runFunc, Ev.exec, Ev.evOpers, Ev.evOper, Ev.item_op, Ev.item_P, Ev.evOp, Ev.evs, Ev.Opnd.ev, Ev.Env.get, Ev.Env.set, Ev.look, Ev.argVars, Ev.cellsAt, Ev.loadC, Ev.fillP, Ev.fillR, Ev.AV.cells, Ev.AV.uc, Ev.plains, Ev.AV.plain, Ev.resVals, Ev.resVal, Ev.resOf, Ev.kill, Ev.leave, Ev.settle, Ev.keep, Ev.varsLo, Ev.marksLo, Ev.storeLo, Ev.SObj.lo, Ev.lo_v, Ev.lo_agg, Ev.lo_fsl, Ev.lo_fn, Ev.los_nil, Ev.los_cons, Ev.loss_nil, Ev.loss_cons, Ev.frz_lo, List.length_map, ↓Ev.obind, ↓Ev.itL_itB, ↓reduceIte, List.length_cons, List.length_nil, List.getElem?_cons_zero, List.take_succ_cons, List.take_zero, List.take_nil, List.drop_succ_cons, List.drop_zero, List.drop_nil, List.cons_append, List.nil_append, List.append_nil, List.set_cons_zero, List.set_cons_succ, Nat.reduceAdd, Nat.reduceEqDiff, Nat.reduceMul, Nat.reduceLT, Nat.reduceLeDiff, Nat.reducePow, Int.cast_ofNat_Int, reduceCtorEq, Bool.and_self, Bool.not_true, Bool.false_eq_true, and_self, ne_eq, not_false_eq_true, List.cons_ne_nil, Nat.zero_add, Nat.lt_add_one, Nat.le_refl, eq_self]
    · simp only [h, and_self, if_true]
      simp only [c_program_Check, hrep, h0, k1, q2, q3, prog_lo, Ev.runFunc, Ev.exec, Ev.evOpers, Ev.evOper, Ev.item_op, Ev.item_P, Ev.evOp, Ev.evs, Ev.Opnd.ev, Ev.Env.get, Ev.Env.set, Ev.look, Ev.argVars, Ev.cellsAt, Ev.loadC, Ev.fillP, Ev.fillR, Ev.AV.cells, Ev.AV.uc, Ev.plains, Ev.AV.plain, Ev.resVals, Ev.resVal, Ev.resOf, Ev.kill, Ev.leave, Ev.settle, Ev.keep, Ev.varsLo, Ev.marksLo, Ev.storeLo, Ev.SObj.lo, Ev.lo_v, Ev.lo_agg, Ev.lo_fsl, Ev.lo_fn, Ev.los_nil, Ev.los_cons, Ev.loss_nil, Ev.loss_cons, Ev.frz_lo, List.length_map, ↓Ev.obind, ↓Ev.itL_itB, ↓reduceIte, List.length_cons, List.length_nil, List.getElem?_cons_zero, List.take_succ_cons, List.take_zero, List.take_nil, List.drop_succ_cons, List.drop_zero, List.drop_nil, List.cons_append, List.nil_append, List.append_nil, List.set_cons_zero, List.set_cons_succ, Nat.reduceAdd, Nat.reduceEqDiff, Nat.reduceMul, Nat.reduceLT, Nat.reduceLeDiff, Nat.reducePow, Int.cast_ofNat_Int, reduceCtorEq, Bool.and_self, Bool.not_true, Bool.false_eq_true, and_self, ne_eq, not_false_eq_true, List.cons_ne_nil, Nat.zero_add, Nat.lt_add_one, Nat.le_refl, eq_self]
  · simp only [h, decide_false] at h0
    simp only [h, if_false]
    simp only [c_program_Check, h0, Ev.runFunc, Ev.exec, Ev.evOpers, Ev.evOper, Ev.item_op, Ev.item_P, Ev.evOp, Ev.evs, Ev.Opnd.ev, Ev.Env.get, Ev.Env.set, Ev.look, Ev.argVars, Ev.resVals, Ev.resVal, Ev.resOf, Ev.kill, Ev.leave, Ev.storeLo, Ev.lo_v, Ev.los_nil, Ev.los_cons, Ev.frz_lo, List.length_map, ↓Ev.obind, ↓reduceIte, List.length_cons, List.length_nil, List.take_nil, Nat.reduceAdd, reduceCtorEq, Bool.and_self, Bool.not_false, and_self, Nat.zero_add, eq_self]
end Go.Proofs.Ythkjkdbjgpeigaa.K
namespace Go.Proofs.Ythkjkdbjgpeigaa.K
open Go.Ev
set_option linter.unusedSimpArgs false
set_option linter.unusedVariables false
set_option maxRecDepth 10000
def firstE {τ : Type} (g : τ → Int) (l : List τ) : Int := match l.find? (fun x => !decide (g x = 0)) with
  | none => 0
  | some x => g x
theorem firstE_all {τ : Type} {g : τ → Int} {l : List τ} (h : l.all (fun x => decide (g x = 0)) = true) : firstE g l = 0 := by
  have : l.find? (fun x => !decide (g x = 0)) = none := by
    rw [List.find?_eq_none]
    intro x hx
    have := List.all_eq_true.1 h x hx
    simpa using this
  unfold firstE; rw [this]
theorem firstE_some {τ : Type} {g : τ → Int} {l : List τ} {x : τ} (h : l.find? (fun x => !decide (g x = 0)) = some x) : firstE g l = g x := by
  unfold firstE; rw [h]
theorem config_within_ev (n l m : Int) : callZ (evL T) n_config_within [(.v (.int .i64 (n))), (.v (.int .i64 (l))), (.v (.int .i64 (m)))] = some (.v (.bool (withinB n l m))) := by
  rw [callZ, evL_code ext_config_within code_config_within]
  by_cases h1 : n ≥ l <;> simp only [withinB, c_config_within, h1, Ev.runFunc, Ev.exec, Ev.evOpers, Ev.evOper, Ev.item_op, Ev.evOp, Ev.Opnd.ev, Ev.Env.get, Ev.Env.set, Ev.Env.unset, Ev.look, Ev.argVars, Ev.bin_leq, Ev.bin_geq, Ev.resVals, Ev.resVal, Ev.resOf, Ev.kill, Ev.leave, Ev.storeLo, Ev.lo_v, Ev.frz_lo, ↓Ev.obind, ↓reduceIte, List.length_cons, List.length_nil, List.take_nil, Nat.reduceAdd, Nat.reduceEqDiff, reduceCtorEq, decide_true, decide_false, Bool.true_and, Bool.false_eq_true, and_self, Nat.zero_add, eq_self, Bool.false_and]
theorem config_verdict_ev (b : Bool) (e : Int) : callZ (evL T) n_config_verdict [(.v (.bool (b))), (.v (.int .i64 (e)))] = some (.v (.int .i64 (okZ b e))) := by
  rw [callZ, evL_code ext_config_verdict code_config_verdict]
  cases b <;> simp only [okZ, c_config_verdict, Ev.runFunc, Ev.exec, Ev.evOpers, Ev.evOper, Ev.item_op, Ev.evOp, Ev.Opnd.ev, Ev.Env.get, Ev.Env.set, Ev.look, Ev.argVars, Ev.resVals, Ev.resVal, Ev.resOf, Ev.kill, Ev.leave, Ev.storeLo, Ev.lo_v, Ev.frz_lo, ↓Ev.obind, ↓reduceIte, List.length_cons, List.length_nil, List.take_nil, Nat.reduceAdd, Nat.reduceEqDiff, reduceCtorEq, Bool.false_eq_true, and_self, Nat.zero_add, eq_self]
section
variable (k : Nat) (cap : List AV) (hcap : los 0 cap = true)
include hcap
theorem first_prog_ev (l : List (List OpI)) (g : List OpI → Int) (hl : l.length < 2 ^ 62) (hf : ∀ p ∈ l, (evL T).call k ((.fsl ((p).map OpI.r) false) :: cap) [] = some ((.v (.int .i64 (g p))), [])) :
    callZ (evL T) n_config_first_Lapi_Op [(.fsl ((l).map progC) false), .fn (.func k) [] cap] = some (.v (.int .i64 (firstE g l))) := by
  have hL : ∃ y, itB (exec (evL T) itL none c_config_first_Lapi_Op_L1) (Ev.settle [1, 8, 9, 10] true 0) ⟨[(1, .fn (.func k) [] cap), (8, (.fsl ((l).map progC) false)), (9, (.v (.int .i64 (l.length)))), (10, (.v (.int .i64 (0))))], []⟩ [] = some y ∧ (l.all (fun x => decide (g x = 0)) = true ∧ (y.1 = .exit 0 ∧ y.2.1.marks = [] ∧ y.2.2 = []) ∨
      l.all (fun x => decide (g x = 0)) = false ∧ ∃ x, l.find? (fun x => !decide (g x = 0)) = some x ∧ (y.1 = .ret ∧ y.2.1.marks = [] ∧ y.2.2 = [] ∧ Ev.look y.2.1.vars 4 = some (.v (.int .i64 (g x))))) := by
    refine itB_find l (fun i => ⟨[(1, .fn (.func k) [] cap), (8, (.fsl ((l).map progC) false)), (9, (.v (.int .i64 (l.length)))), (10, (.v (.int .i64 (i))))], []⟩) [] (fun x => decide (g x = 0)) _ (fun x y => _) ?_ ?_ ?_
    · intro i x hi hx hp
      have hi' : (i : Int) < (l.length : Int) := by omega
      have hw : IntKind.i64.wrap ((i : Int) + 1) = ((i + 1 : Nat) : Int) := by rw [w64_small (by omega) (by omega)]; simp
      have h1 := hf x (List.mem_of_getElem? hx)
      rw [of_decide_eq_true hp] at h1
      simp only [c_config_first_Lapi_Op_L1, Int.natCast_nonneg, Int.toNat_natCast, List.getElem?_map, Option.map_some, hx, hi', hw, h1, hcap, progs_lo, progC, Ev.exec, Ev.evOpers, Ev.evOper, Ev.item_op, Ev.item_v, Ev.evOp, Ev.evs, Ev.Opnd.ev, Ev.Env.get, Ev.Env.set, Ev.look, Ev.cellsAt, Ev.loadC, Ev.bin_add, Ev.bin_neq, Ev.bin_lss, Ev.settle, Ev.keep, Ev.varsLo, Ev.marksLo, Ev.storeLo, Ev.lo_v, Ev.lo_fsl, Ev.lo_fn, Ev.los_nil, ↓Ev.obind, Ev.it1, ↓reduceIte, List.length_cons, List.length_nil, List.take_nil, List.cons_append, List.nil_append, List.head?_cons, Nat.reduceEqDiff, decide_true, decide_false, Bool.and_self, Bool.false_eq_true, and_self, ne_eq, not_true_eq_false, Nat.zero_add, eq_self]
    · intro i x hi hx hp
      have hi' : (i : Int) < (l.length : Int) := by omega
      have h1 := hf x (List.mem_of_getElem? hx)
      have h2 : ¬ g x = 0 := of_decide_eq_false hp
      simp only [c_config_first_Lapi_Op_L1, Int.natCast_nonneg, Int.toNat_natCast, List.getElem?_map, Option.map_some, hx, hi', h1, h2, progC, Ev.exec, Ev.evOpers, Ev.evOper, Ev.item_op, Ev.item_v, Ev.evOp, Ev.evs, Ev.Opnd.ev, Ev.Env.get, Ev.Env.set, Ev.look, Ev.cellsAt, Ev.loadC, Ev.bin_neq, Ev.bin_lss, ↓Ev.obind, Ev.it1, ↓reduceIte, List.length_cons, List.length_nil, List.cons_append, List.nil_append, List.head?_cons, Nat.reduceEqDiff, decide_true, Bool.false_eq_true, ne_eq, not_false_eq_true, Nat.zero_add, eq_self]
      exact ⟨_, rfl, rfl, rfl, rfl, rfl⟩
    · simp only [c_config_first_Lapi_Op_L1, Int.lt_irrefl, Ev.exec, Ev.evOpers, Ev.evOper, Ev.item_op, Ev.evOp, Ev.Opnd.ev, Ev.Env.get, Ev.Env.set, Ev.look, Ev.bin_lss, ↓Ev.obind, Ev.it1, ↓reduceIte, Nat.reduceEqDiff, decide_false, Bool.false_eq_true, eq_self]
      exact ⟨_, rfl, rfl, rfl, rfl⟩
  obtain ⟨⟨y, e, σ⟩, k1, k2⟩ := hL
  simp only at k2
  rw [callZ, evL_code ext_config_first_Lapi_Op code_config_first_Lapi_Op]
  rcases k2 with ⟨k3, rfl, k4, rfl⟩ | ⟨k3, x, k5, rfl, k4, rfl, k6⟩
  · rw [firstE_all k3]
    simp only [c_config_first_Lapi_Op, k1, k4, hcap, progs_lo, Ev.runFunc, Ev.exec, Ev.evOpers, Ev.evOper, Ev.item_op, Ev.evOp, Ev.Opnd.ev, Ev.Env.get, Ev.Env.set, Ev.look, Ev.argVars, Ev.resVals, Ev.resVal, Ev.resOf, Ev.kill, Ev.leave, Ev.settle, Ev.keep, Ev.varsLo, Ev.marksLo, Ev.storeLo, Ev.lo_v, Ev.lo_fsl, Ev.lo_fn, Ev.los_nil, Ev.frz_lo, List.length_map, ↓Ev.obind, ↓Ev.itL_itB, ↓reduceIte, List.length_cons, List.length_nil, List.take_nil, Nat.reduceAdd, Nat.reduceEqDiff, reduceCtorEq, Bool.and_self, and_self, Nat.zero_add, eq_self]
  · rw [firstE_some k5]
    simp only [c_config_first_Lapi_Op, k1, k4, k6, hcap, progs_lo, Ev.runFunc, Ev.exec, Ev.evOpers, Ev.evOper, Ev.item_op, Ev.evOp, Ev.Opnd.ev, Ev.Env.get, Ev.Env.set, Ev.look, Ev.argVars, Ev.resVals, Ev.resVal, Ev.resOf, Ev.kill, Ev.leave, Ev.settle, Ev.keep, Ev.varsLo, Ev.marksLo, Ev.storeLo, Ev.lo_v, Ev.lo_fsl, Ev.lo_fn, Ev.los_nil, Ev.frz_lo, List.length_map, ↓Ev.obind, ↓Ev.itL_itB, ↓reduceIte, List.length_cons, List.length_nil, List.take_nil, Nat.reduceAdd, Nat.reduceEqDiff, reduceCtorEq, Bool.and_self, and_self, Nat.zero_add, eq_self]
theorem first_starts_ev (l : List (List Start)) (g : List Start → Int) (hl : l.length < 2 ^ 62) (hf : ∀ p ∈ l, (evL T).call k ((.fsl ((p).map Start.r) false) :: cap) [] = some ((.v (.int .i64 (g p))), [])) :
    callZ (evL T) n_config_first_Lapi_Start [(.fsl ((l).map lpC) false), .fn (.func k) [] cap] = some (.v (.int .i64 (firstE g l))) := by
  have hL : ∃ y, itB (exec (evL T) itL none c_config_first_Lapi_Start_L1) (Ev.settle [1, 8, 9, 10] true 0) ⟨[(1, .fn (.func k) [] cap), (8, (.fsl ((l).map lpC) false)), (9, (.v (.int .i64 (l.length)))), (10, (.v (.int .i64 (0))))], []⟩ [] = some y ∧ (l.all (fun x => decide (g x = 0)) = true ∧ (y.1 = .exit 0 ∧ y.2.1.marks = [] ∧ y.2.2 = []) ∨
      l.all (fun x => decide (g x = 0)) = false ∧ ∃ x, l.find? (fun x => !decide (g x = 0)) = some x ∧ (y.1 = .ret ∧ y.2.1.marks = [] ∧ y.2.2 = [] ∧ Ev.look y.2.1.vars 4 = some (.v (.int .i64 (g x))))) := by
    refine itB_find l (fun i => ⟨[(1, .fn (.func k) [] cap), (8, (.fsl ((l).map lpC) false)), (9, (.v (.int .i64 (l.length)))), (10, (.v (.int .i64 (i))))], []⟩) [] (fun x => decide (g x = 0)) _ (fun x y => _) ?_ ?_ ?_
    · intro i x hi hx hp
      have hi' : (i : Int) < (l.length : Int) := by omega
      have hw : IntKind.i64.wrap ((i : Int) + 1) = ((i + 1 : Nat) : Int) := by rw [w64_small (by omega) (by omega)]; simp
      have h1 := hf x (List.mem_of_getElem? hx)
      rw [of_decide_eq_true hp] at h1
      simp only [c_config_first_Lapi_Start_L1, Int.natCast_nonneg, Int.toNat_natCast, List.getElem?_map, Option.map_some, hx, hi', hw, h1, hcap, lps_lo, lpC, Ev.exec, Ev.evOpers, Ev.evOper, Ev.item_op, Ev.item_v, Ev.evOp, Ev.evs, Ev.Opnd.ev, Ev.Env.get, Ev.Env.set, Ev.look, Ev.cellsAt, Ev.loadC, Ev.bin_add, Ev.bin_neq, Ev.bin_lss, Ev.settle, Ev.keep, Ev.varsLo, Ev.marksLo, Ev.storeLo, Ev.lo_v, Ev.lo_fsl, Ev.lo_fn, Ev.los_nil, ↓Ev.obind, Ev.it1, ↓reduceIte, List.length_cons, List.length_nil, List.take_nil, List.cons_append, List.nil_append, List.head?_cons, Nat.reduceEqDiff, decide_true, decide_false, Bool.and_self, Bool.false_eq_true, and_self, ne_eq, not_true_eq_false, Nat.zero_add, eq_self]
    · intro i x hi hx hp
      have hi' : (i : Int) < (l.length : Int) := by omega
      have h1 := hf x (List.mem_of_getElem? hx)
      have h2 : ¬ g x = 0 := of_decide_eq_false hp
      simp only [c_config_first_Lapi_Start_L1, Int.natCast_nonneg, Int.toNat_natCast, List.getElem?_map, Option.map_some, hx, hi', h1, h2, lpC, Ev.exec, Ev.evOpers, Ev.evOper, Ev.item_op, Ev.item_v, Ev.evOp, Ev.evs, Ev.Opnd.ev, Ev.Env.get, Ev.Env.set, Ev.look, Ev.cellsAt, Ev.loadC, Ev.bin_neq, Ev.bin_lss, ↓Ev.obind, Ev.it1, ↓reduceIte, List.length_cons, List.length_nil, List.cons_append, List.nil_append, List.head?_cons, Nat.reduceEqDiff, decide_true, Bool.false_eq_true, ne_eq, not_false_eq_true, Nat.zero_add, eq_self]
      exact ⟨_, rfl, rfl, rfl, rfl, rfl⟩
    · simp only [c_config_first_Lapi_Start_L1, Int.lt_irrefl, Ev.exec, Ev.evOpers, Ev.evOper, Ev.item_op, Ev.evOp, Ev.Opnd.ev, Ev.Env.get, Ev.Env.set, Ev.look, Ev.bin_lss, ↓Ev.obind, Ev.it1, ↓reduceIte, Nat.reduceEqDiff, decide_false, Bool.false_eq_true, eq_self]
      exact ⟨_, rfl, rfl, rfl, rfl⟩
  obtain ⟨⟨y, e, σ⟩, k1, k2⟩ := hL
  simp only at k2
  rw [callZ, evL_code ext_config_first_Lapi_Start code_config_first_Lapi_Start]
  rcases k2 with ⟨k3, rfl, k4, rfl⟩ | ⟨k3, x, k5, rfl, k4, rfl, k6⟩
  · rw [firstE_all k3]
    simp only [c_config_first_Lapi_Start, k1, k4, hcap, lps_lo, Ev.runFunc, Ev.exec, Ev.evOpers, Ev.evOper, Ev.item_op, Ev.evOp, Ev.Opnd.ev, Ev.Env.get, Ev.Env.set, Ev.look, Ev.argVars, Ev.resVals, Ev.resVal, Ev.resOf, Ev.kill, Ev.leave, Ev.settle, Ev.keep, Ev.varsLo, Ev.marksLo, Ev.storeLo, Ev.lo_v, Ev.lo_fsl, Ev.lo_fn, Ev.los_nil, Ev.frz_lo, List.length_map, ↓Ev.obind, ↓Ev.itL_itB, ↓reduceIte, List.length_cons, List.length_nil, List.take_nil, Nat.reduceAdd, Nat.reduceEqDiff, reduceCtorEq, Bool.and_self, and_self, Nat.zero_add, eq_self]
  · rw [firstE_some k5]
    simp only [c_config_first_Lapi_Start, k1, k4, k6, hcap, lps_lo, Ev.runFunc, Ev.exec, Ev.evOpers, Ev.evOper, Ev.item_op, Ev.evOp, Ev.Opnd.ev, Ev.Env.get, Ev.Env.set, Ev.look, Ev.argVars, Ev.resVals, Ev.resVal, Ev.resOf, Ev.kill, Ev.leave, Ev.settle, Ev.keep, Ev.varsLo, Ev.marksLo, Ev.storeLo, Ev.lo_v, Ev.lo_fsl, Ev.lo_fn, Ev.los_nil, Ev.frz_lo, List.length_map, ↓Ev.obind, ↓Ev.itL_itB, ↓reduceIte, List.length_cons, List.length_nil, List.take_nil, Nat.reduceAdd, Nat.reduceEqDiff, reduceCtorEq, Bool.and_self, and_self, Nat.zero_add, eq_self]
theorem first_start_ev (l : List Start) (g : Start → Int) (hl : l.length < 2 ^ 62) (hf : ∀ x ∈ l, (evL T).call k (.agg [(.v (.int .i64 (x.prog))), (.v (.int .i64 (x.time)))] :: cap) [.row 2 [[(.v (.int .i64 (x.prog))), (.v (.int .i64 (x.time)))]] 0] = some ((.v (.int .i64 (g x))), [.row 2 [[(.v (.int .i64 (x.prog))), (.v (.int .i64 (x.time)))]] 0])) :
    callZ (evL T) n_config_first_api_Start [(.fsl ((l).map Start.r) false), .fn (.func k) [] cap] = some (.v (.int .i64 (firstE g l))) := by
  have hL : ∃ y, itB (exec (evL T) itL none c_config_first_api_Start_L1) (Ev.settle [1, 8, 9, 10] true 0) ⟨[(1, .fn (.func k) [] cap), (8, (.fsl ((l).map Start.r) false)), (9, (.v (.int .i64 (l.length)))), (10, (.v (.int .i64 (0))))], []⟩ [] = some y ∧ (l.all (fun x => decide (g x = 0)) = true ∧ (y.1 = .exit 0 ∧ y.2.1.marks = [] ∧ y.2.2 = []) ∨
      l.all (fun x => decide (g x = 0)) = false ∧ ∃ x, l.find? (fun x => !decide (g x = 0)) = some x ∧ (y.1 = .ret ∧ y.2.1.marks = [] ∧ y.2.2 = [.row 2 [[(.v (.int .i64 (x.prog))), (.v (.int .i64 (x.time)))]] 0] ∧ Ev.look y.2.1.vars 4 = some (.v (.int .i64 (g x))))) := by
    refine itB_find l (fun i => ⟨[(1, .fn (.func k) [] cap), (8, (.fsl ((l).map Start.r) false)), (9, (.v (.int .i64 (l.length)))), (10, (.v (.int .i64 (i))))], []⟩) [] (fun x => decide (g x = 0)) _ (fun x y => _) ?_ ?_ ?_
    · intro i x hi hx hp
      have hi' : (i : Int) < (l.length : Int) := by omega
      have hw : IntKind.i64.wrap ((i : Int) + 1) = ((i + 1 : Nat) : Int) := by rw [w64_small (by omega) (by omega)]; simp
      have h1 := hf x (List.mem_of_getElem? hx)
      rw [of_decide_eq_true hp] at h1
      simp only [c_config_first_api_Start_L1, Int.natCast_nonneg, Int.toNat_natCast, List.getElem?_map, Option.map_some, hx, hi', hw, h1, hcap, starts_lo, Start.r, Ev.exec, Ev.evOpers, Ev.evOper, Ev.item_op, Ev.item_v, Ev.evOp, Ev.evs, Ev.Opnd.ev, Ev.Env.get, Ev.Env.set, Ev.look, Ev.cellsAt, Ev.loadC, Ev.AV.cells, Ev.plains, Ev.AV.plain, Ev.bin_add, Ev.bin_neq, Ev.bin_lss, Ev.settle, Ev.keep, Ev.varsLo, Ev.marksLo, Ev.storeLo, Ev.lo_v, Ev.lo_fsl, Ev.lo_fn, Ev.los_nil, ↓Ev.obind, Ev.it1, ↓reduceIte, List.length_cons, List.length_nil, List.getElem?_cons_zero, List.take_succ_cons, List.take_zero, List.take_nil, List.drop_succ_cons, List.drop_zero, List.drop_nil, List.cons_append, List.nil_append, List.append_nil, List.set_cons_zero, Nat.reduceAdd, Nat.reduceEqDiff, decide_true, decide_false, Bool.and_self, Bool.false_eq_true, and_self, ne_eq, not_false_eq_true, not_true_eq_false, List.cons_ne_nil, Nat.zero_add, Nat.le_refl, eq_self]
    · intro i x hi hx hp
      have hi' : (i : Int) < (l.length : Int) := by omega
      have h1 := hf x (List.mem_of_getElem? hx)
      have h2 : ¬ g x = 0 := of_decide_eq_false hp
      simp only [c_config_first_api_Start_L1, Int.natCast_nonneg, Int.toNat_natCast, List.getElem?_map, Option.map_some, hx, hi', h1, h2, Start.r, Ev.exec, Ev.evOpers, Ev.evOper, Ev.item_op, Ev.item_v, Ev.evOp, Ev.evs, Ev.Opnd.ev, Ev.Env.get, Ev.Env.set, Ev.look, Ev.cellsAt, Ev.loadC, Ev.AV.cells, Ev.plains, Ev.AV.plain, Ev.bin_neq, Ev.bin_lss, ↓Ev.obind, Ev.it1, ↓reduceIte, List.length_cons, List.length_nil, List.getElem?_cons_zero, List.take_succ_cons, List.take_zero, List.take_nil, List.drop_succ_cons, List.drop_zero, List.drop_nil, List.cons_append, List.nil_append, List.append_nil, List.set_cons_zero, Nat.reduceAdd, Nat.reduceEqDiff, decide_true, Bool.and_self, and_self, ne_eq, not_false_eq_true, List.cons_ne_nil, Nat.zero_add, Nat.le_refl, eq_self]
      exact ⟨_, rfl, rfl, rfl, rfl, rfl⟩
    · simp only [c_config_first_api_Start_L1, Int.lt_irrefl, Ev.exec, Ev.evOpers, Ev.evOper, Ev.item_op, Ev.evOp, Ev.Opnd.ev, Ev.Env.get, Ev.Env.set, Ev.look, Ev.bin_lss, ↓Ev.obind, Ev.it1, ↓reduceIte, Nat.reduceEqDiff, decide_false, Bool.false_eq_true, eq_self]
      exact ⟨_, rfl, rfl, rfl, rfl⟩
  obtain ⟨⟨y, e, σ⟩, k1, k2⟩ := hL
  simp only at k2
  rw [callZ, evL_code ext_config_first_api_Start code_config_first_api_Start]
  rcases k2 with ⟨k3, rfl, k4, rfl⟩ | ⟨k3, x, k5, rfl, k4, rfl, k6⟩
  · rw [firstE_all k3]
    simp only [c_config_first_api_Start, k1, k4, hcap, starts_lo, Ev.runFunc, Ev.exec, Ev.evOpers, Ev.evOper, Ev.item_op, Ev.evOp, Ev.Opnd.ev, Ev.Env.get, Ev.Env.set, Ev.look, Ev.argVars, Ev.resVals, Ev.resVal, Ev.resOf, Ev.kill, Ev.leave, Ev.settle, Ev.keep, Ev.varsLo, Ev.marksLo, Ev.storeLo, Ev.lo_v, Ev.lo_fsl, Ev.lo_fn, Ev.los_nil, Ev.frz_lo, List.length_map, ↓Ev.obind, ↓Ev.itL_itB, ↓reduceIte, List.length_cons, List.length_nil, List.take_nil, Nat.reduceAdd, Nat.reduceEqDiff, reduceCtorEq, Bool.and_self, and_self, Nat.zero_add, eq_self]
  · rw [firstE_some k5]
    simp only [c_config_first_api_Start, k1, k4, k6, hcap, starts_lo, Ev.runFunc, Ev.exec, Ev.evOpers, Ev.evOper, Ev.item_op, Ev.evOp, Ev.Opnd.ev, Ev.Env.get, Ev.Env.set, Ev.look, Ev.argVars, Ev.resVals, Ev.resVal, Ev.resOf, Ev.kill, Ev.leave, Ev.settle, Ev.keep, Ev.varsLo, Ev.marksLo, Ev.storeLo, Ev.lo_v, Ev.lo_fsl, Ev.lo_fn, Ev.los_nil, Ev.frz_lo, List.length_map, ↓Ev.obind, ↓Ev.itL_itB, ↓reduceIte, List.length_cons, List.length_nil, List.take_zero, List.take_nil, Nat.reduceAdd, Nat.reduceEqDiff, reduceCtorEq, Bool.and_self, and_self, Nat.zero_add, eq_self]
end
end Go.Proofs.Ythkjkdbjgpeigaa.K
namespace Go.Proofs.Ythkjkdbjgpeigaa.K
open Go.Ev
set_option linter.unusedSimpArgs false
set_option linter.unusedVariables false
set_option maxRecDepth 10000
section
variable (c : Cfg)
def sizes0 (c : Cfg) : Bool := withinB c.lps.length 1 8 && (decide ((c.progs.length : Int) ≤ 8) && (withinB c.cap 1 64 && withinB c.fin 0 1152921504606846976))
def lenB (l : List Start) : Bool := decide ((l.length : Int) ≤ 8)
def sizesB (c : Cfg) : Bool := sizes0 c && c.lps.all lenB
structure CfgOk (c : Cfg) : Prop where
  lps : c.lps.length < 2 ^ 62
  progs : c.progs.length < 2 ^ 62
  prog : ∀ p ∈ c.progs, p.length < 2 ^ 62
  lp : ∀ l ∈ c.lps, l.length < 2 ^ 62
theorem sizes_loop (h : CfgOk c) (b : Bool) :
    ∃ y, itB (exec (evL T) itL none c_config_checker_sizes_L1) (Ev.settle [3, 32, 33, 34] true 0) ⟨[(3, (.v (.bool (b)))), (32, (.fsl ((c.lps).map lpC) false)), (33, (.v (.int .i64 (c.lps.length)))), (34, (.v (.int .i64 (0))))], []⟩ [] = some y ∧ y.1 = .exit 0 ∧ y.2.1.marks = [] ∧ y.2.2 = [] ∧ Ev.look y.2.1.vars 3 = some (.v (.bool (b && c.lps.all lenB))) := by
  have hlp := h.lps
  have := itB_for (f := exec (evL T) itL none c_config_checker_sizes_L1) (s := Ev.settle [3, 32, 33, 34] true 0) (α := Bool) (fun i b => ⟨[(3, (.v (.bool (b)))), (32, (.fsl ((c.lps).map lpC) false)), (33, (.v (.int .i64 (c.lps.length)))), (34, (.v (.int .i64 ((i : Int)))))], []⟩) (fun _ _ => [])
    (fun i r => r = (b && (c.lps.take i).all lenB)) c.lps.length (fun y => y.1 = .exit 0 ∧ y.2.1.marks = [] ∧ y.2.2 = [] ∧ Ev.look y.2.1.vars 3 = some (.v (.bool (b && c.lps.all lenB)))) ?_ ?_ 0 b (Nat.zero_le _) (by simp)
  · exact this
  · rintro i r hi hr
    obtain ⟨x, hx⟩ : ∃ x, c.lps[i]? = some x := ⟨_, List.getElem?_eq_getElem hi⟩
    have hi' : (i : Int) < (c.lps.length : Int) := by omega
    have hw : IntKind.i64.wrap ((i : Int) + 1) = ((i + 1 : Nat) : Int) := by rw [w64_small (by omega) (by omega)]; simp
    have hn : (b && (c.lps.take (i + 1)).all lenB) = (r && lenB x) := by rw [hr, take_next hx, List.all_append, ← Bool.and_assoc]; simp
    refine .inl ⟨r && lenB x, ?_, hn.symm⟩
    cases r <;> simp only [c_config_checker_sizes_L1, Int.natCast_nonneg, Int.toNat_natCast, List.getElem?_map, Option.map_some, hx, hi', hw, lps_lo, lpC, lenB, Ev.exec, Ev.evOpers, Ev.evOper, Ev.item_op, Ev.evOp, Ev.Opnd.ev, Ev.Env.get, Ev.Env.set, Ev.Env.unset, Ev.look, Ev.cellsAt, Ev.loadC, Ev.bin_add, Ev.bin_lss, Ev.bin_leq, Ev.settle, Ev.keep, Ev.varsLo, Ev.marksLo, Ev.storeLo, Ev.lo_v, Ev.lo_fsl, List.length_map, ↓Ev.obind, Ev.it1, ↓reduceIte, List.length_cons, List.length_nil, List.take_nil, List.head?_cons, Nat.reduceEqDiff, decide_true, Bool.and_self, Bool.true_and, Bool.false_eq_true, and_self, Nat.zero_add, eq_self, Bool.false_and]
  · rintro r hr
    rw [List.take_length] at hr
    simp only [c_config_checker_sizes_L1, Int.lt_irrefl, Ev.exec, Ev.evOpers, Ev.evOper, Ev.item_op, Ev.evOp, Ev.Opnd.ev, Ev.Env.get, Ev.Env.set, Ev.look, Ev.bin_lss, ↓Ev.obind, Ev.it1, ↓reduceIte, Nat.reduceEqDiff, decide_false, Bool.false_eq_true, eq_self]
    exact ⟨_, rfl, rfl, rfl, rfl, by rw [← hr]; rfl⟩
theorem checker_sizes_ev (h : CfgOk c) : (evL T).call n_config_checker_sizes [(.agg [(.fsl ((c.lps).map lpC) false), (.fsl ((c.progs).map progC) false), (.v (.int .i64 (c.look))), (.v (.int .i64 (c.fin))), (.v (.int .i64 (c.cap)))])] [] = some ((.v (.int .i64 (okZ (sizesB c) 1))), []) := by
  obtain ⟨⟨y, e, σ⟩, k1, k2, k3, k4, k5⟩ := sizes_loop c h (sizes0 c)
  simp only at k2 k3 k4 k5
  subst k2; subst k4
  have v := config_verdict_ev (sizesB c) 1
  rw [show sizesB c = (sizes0 c && c.lps.all lenB) from rfl] at v ⊢
  rw [evL_code ext_config_checker_sizes code_config_checker_sizes]
  unfold sizes0 at k1 k5 v ⊢
  cases h1 : withinB c.lps.length 1 8 <;> simp only [h1, Bool.false_and, Bool.true_and] at k1 k5 v ⊢
  · simp only [c_config_checker_sizes, config_within_ev, h1, k1, k3, k5, v, lps_lo, okZ, Ev.runFunc, Ev.exec, Ev.evOpers, Ev.evOper, Ev.item_op, Ev.item_P, Ev.evOp, Ev.evs, Ev.Opnd.ev, Ev.Env.get, Ev.Env.set, Ev.Env.unset, Ev.look, Ev.argVars, Ev.cellsAt, Ev.loadC, Ev.AV.cells, Ev.plains, Ev.AV.plain, Ev.resVals, Ev.resVal, Ev.resOf, Ev.kill, Ev.leave, Ev.settle, Ev.keep, Ev.varsLo, Ev.marksLo, Ev.storeLo, Ev.lo_v, Ev.lo_fsl, Ev.los_nil, Ev.los_cons, List.length_map, ↓Ev.obind, ↓Ev.itL_itB, ↓reduceIte, List.length_cons, List.length_nil, List.take_nil, List.drop_zero, List.head?_cons, Nat.reduceEqDiff, Bool.and_self, Bool.false_eq_true, and_self, ne_eq, not_false_eq_true, List.cons_ne_nil, Nat.zero_add, eq_self]
  by_cases h2 : (c.progs.length : Int) ≤ 8 <;> simp only [h2, decide_true, decide_false, Bool.false_and, Bool.true_and] at k1 k5 v ⊢
  · cases h3 : withinB c.cap 1 64 <;> simp only [h3, Bool.false_and, Bool.true_and] at k1 k5 v ⊢
    · simp only [c_config_checker_sizes, config_within_ev, h1, h2, h3, k1, k3, k5, v, lps_lo, okZ, Ev.runFunc, Ev.exec, Ev.evOpers, Ev.evOper, Ev.item_op, Ev.item_P, Ev.evOp, Ev.evs, Ev.Opnd.ev, Ev.Env.get, Ev.Env.set, Ev.Env.unset, Ev.look, Ev.argVars, Ev.cellsAt, Ev.loadC, Ev.AV.cells, Ev.plains, Ev.AV.plain, Ev.bin_leq, Ev.resVals, Ev.resVal, Ev.resOf, Ev.kill, Ev.leave, Ev.settle, Ev.keep, Ev.varsLo, Ev.marksLo, Ev.storeLo, Ev.lo_v, Ev.lo_fsl, Ev.los_nil, Ev.los_cons, List.length_map, ↓Ev.obind, ↓Ev.itL_itB, ↓reduceIte, List.length_cons, List.length_nil, List.take_nil, List.drop_succ_cons, List.drop_zero, List.head?_cons, Nat.reduceEqDiff, decide_true, Bool.and_self, Bool.false_eq_true, and_self, ne_eq, not_false_eq_true, List.cons_ne_nil, Nat.zero_add, eq_self]
    · simp only [c_config_checker_sizes, config_within_ev, h1, h2, h3, k1, k3, k5, v, lps_lo, okZ, Ev.runFunc, Ev.exec, Ev.evOpers, Ev.evOper, Ev.item_op, Ev.item_P, Ev.evOp, Ev.evs, Ev.Opnd.ev, Ev.Env.get, Ev.Env.set, Ev.look, Ev.argVars, Ev.cellsAt, Ev.loadC, Ev.AV.cells, Ev.plains, Ev.AV.plain, Ev.bin_leq, Ev.resVals, Ev.resVal, Ev.resOf, Ev.kill, Ev.leave, Ev.settle, Ev.keep, Ev.varsLo, Ev.marksLo, Ev.storeLo, Ev.lo_v, Ev.lo_fsl, Ev.los_nil, Ev.los_cons, List.length_map, ↓Ev.obind, ↓Ev.itL_itB, ↓reduceIte, List.length_cons, List.length_nil, List.take_nil, List.drop_succ_cons, List.drop_zero, List.head?_cons, Nat.reduceEqDiff, decide_true, Bool.and_self, Bool.false_eq_true, and_self, ne_eq, not_false_eq_true, List.cons_ne_nil, Nat.zero_add, eq_self]
  · simp only [c_config_checker_sizes, config_within_ev, h1, h2, k1, k3, k5, v, lps_lo, okZ, Ev.runFunc, Ev.exec, Ev.evOpers, Ev.evOper, Ev.item_op, Ev.item_P, Ev.evOp, Ev.evs, Ev.Opnd.ev, Ev.Env.get, Ev.Env.set, Ev.Env.unset, Ev.look, Ev.argVars, Ev.cellsAt, Ev.loadC, Ev.AV.cells, Ev.plains, Ev.AV.plain, Ev.bin_leq, Ev.resVals, Ev.resVal, Ev.resOf, Ev.kill, Ev.leave, Ev.settle, Ev.keep, Ev.varsLo, Ev.marksLo, Ev.storeLo, Ev.lo_v, Ev.lo_fsl, Ev.los_nil, Ev.los_cons, List.length_map, ↓Ev.obind, ↓Ev.itL_itB, ↓reduceIte, List.length_cons, List.length_nil, List.take_nil, List.drop_succ_cons, List.drop_zero, List.head?_cons, Nat.reduceEqDiff, decide_false, Bool.and_self, Bool.false_eq_true, and_self, ne_eq, not_false_eq_true, List.cons_ne_nil, Nat.zero_add, eq_self]
theorem checker_lookahead_ev : (evL T).call n_config_checker_lookahead [(.agg [(.fsl ((c.lps).map lpC) false), (.fsl ((c.progs).map progC) false), (.v (.int .i64 (c.look))), (.v (.int .i64 (c.fin))), (.v (.int .i64 (c.cap)))])] [] = some ((.v (.int .i64 (okZ (decide (c.look ≥ 1)) 20))), []) := by
  rw [evL_code ext_config_checker_lookahead code_config_checker_lookahead]
  have v := config_verdict_ev (decide (c.look ≥ 1)) 20
  simp only [c_config_checker_lookahead, v, Ev.runFunc, Ev.exec, Ev.evOpers, Ev.evOper, Ev.item_op, Ev.item_P, Ev.evOp, Ev.evs, Ev.Opnd.ev, Ev.Env.get, Ev.Env.set, Ev.look, Ev.argVars, Ev.cellsAt, Ev.loadC, Ev.AV.cells, Ev.plains, Ev.AV.plain, Ev.bin_geq, Ev.resVals, Ev.resVal, Ev.resOf, Ev.kill, Ev.leave, Ev.storeLo, Ev.lo_v, Ev.los_nil, Ev.los_cons, ↓Ev.obind, ↓reduceIte, List.length_cons, List.length_nil, List.take_nil, List.drop_succ_cons, List.drop_zero, List.head?_cons, Nat.reduceEqDiff, Bool.and_self, Bool.false_eq_true, and_self, ne_eq, not_false_eq_true, List.cons_ne_nil, Nat.zero_add, eq_self]
def progZ (c : Cfg) (p : List OpI) : Int := checkZ p c.progs.length c.lps.length c.look
theorem programs_1_ev (h : CfgOk c) (p : List OpI) (hp : p ∈ c.progs) : (evL T).call n_config_checker_programs_1 [(.fsl ((p).map OpI.r) false), (.fptr [(.fsl ((c.lps).map lpC) false), (.fsl ((c.progs).map progC) false), (.v (.int .i64 (c.look))), (.v (.int .i64 (c.fin))), (.v (.int .i64 (c.cap)))])] [] = some ((.v (.int .i64 (progZ c p))), []) := by
  rw [evL_code ext_config_checker_programs_1 code_config_checker_programs_1]
  have := h.progs
  have v := program_Check_ev p false c.progs.length c.lps.length c.look (h.prog p hp) (w64_small (by omega) (by omega))
  simp only [c_config_checker_programs_1, v, progZ, prog_lo, Ev.runFunc, Ev.exec, Ev.evOpers, Ev.evOper, Ev.item_op, Ev.item_P, Ev.evOp, Ev.evs, Ev.Opnd.ev, Ev.Env.get, Ev.Env.set, Ev.look, Ev.argVars, Ev.cellsAt, Ev.loadC, Ev.resVals, Ev.resVal, Ev.resOf, Ev.kill, Ev.leave, Ev.storeLo, Ev.lo_v, Ev.lo_fsl, Ev.los_nil, Ev.los_cons, List.length_map, ↓Ev.obind, ↓reduceIte, List.length_cons, List.length_nil, List.take_nil, List.drop_succ_cons, List.drop_zero, List.head?_cons, Nat.reduceAdd, Nat.reduceEqDiff, reduceCtorEq, Bool.and_self, Bool.false_eq_true, and_self, Nat.zero_add, eq_self]
theorem checker_programs_ev (h : CfgOk c) : (evL T).call n_config_checker_programs [(.agg [(.fsl ((c.lps).map lpC) false), (.fsl ((c.progs).map progC) false), (.v (.int .i64 (c.look))), (.v (.int .i64 (c.fin))), (.v (.int .i64 (c.cap)))])] [] = some ((.v (.int .i64 (firstE (progZ c) c.progs))), []) := by
  have v := first_prog_ev n_config_checker_programs_1 [(.fptr [(.fsl ((c.lps).map lpC) false), (.fsl ((c.progs).map progC) false), (.v (.int .i64 (c.look))), (.v (.int .i64 (c.fin))), (.v (.int .i64 (c.cap)))])] (by simp only [lps_lo, progs_lo, Ev.lo_v, Ev.lo_fsl, Ev.lo_fptr, Ev.los_nil, Ev.los_cons, Bool.and_self, eq_self]) c.progs (progZ c) h.progs fun p hp => programs_1_ev c h p hp
  rw [evL_code ext_config_checker_programs code_config_checker_programs]
  simp only [c_config_checker_programs, v, lps_lo, progs_lo, Ev.runFunc, Ev.exec, Ev.evOpers, Ev.evOper, Ev.item_op, Ev.item_P, Ev.evOp, Ev.evs, Ev.Opnd.ev, Ev.Env.get, Ev.Env.set, Ev.look, Ev.argVars, Ev.cellsAt, Ev.loadC, Ev.AV.cells, Ev.plains, Ev.AV.plain, Ev.resVals, Ev.resVal, Ev.resOf, Ev.kill, Ev.leave, Ev.storeLo, Ev.lo_v, Ev.lo_fsl, Ev.lo_fptr, Ev.lo_fn, Ev.los_nil, Ev.los_cons, ↓Ev.obind, ↓reduceIte, List.length_cons, List.length_nil, List.take_nil, List.drop_succ_cons, List.drop_zero, List.head?_cons, Nat.reduceEqDiff, Bool.and_self, Bool.false_eq_true, and_self, ne_eq, not_false_eq_true, List.cons_ne_nil, Nat.zero_add, eq_self]
def startE (c : Cfg) (s : Start) : Int := if withinB s.prog 0 ((c.progs.length : Int) - 1) = false then 22 else okZ (withinB s.time 0 1152921504606846976) 11
theorem starts_1_1_ev (h : CfgOk c) (s : Start) : (evL T).call n_config_checker_starts_1_1 [.agg [(.v (.int .i64 (s.prog))), (.v (.int .i64 (s.time)))], (.fptr [(.fsl ((c.lps).map lpC) false), (.fsl ((c.progs).map progC) false), (.v (.int .i64 (c.look))), (.v (.int .i64 (c.fin))), (.v (.int .i64 (c.cap)))])] [.row 2 [[(.v (.int .i64 (s.prog))), (.v (.int .i64 (s.time)))]] 0] = some ((.v (.int .i64 (startE c s))), [.row 2 [[(.v (.int .i64 (s.prog))), (.v (.int .i64 (s.time)))]] 0]) := by
  rw [evL_code ext_config_checker_starts_1_1 code_config_checker_starts_1_1]
  have := h.progs
  have hw : IntKind.i64.wrap ((c.progs.length : Int) - 1) = (c.progs.length : Int) - 1 := w64_small (by omega) (by omega)
  have v := config_verdict_ev (withinB s.time 0 1152921504606846976) 11
  cases h1 : withinB s.prog 0 ((c.progs.length : Int) - 1) <;> simp only [c_config_checker_starts_1_1, config_within_ev, v, hw, h1, startE, Ev.runFunc, Ev.exec, Ev.evOpers, Ev.evOper, Ev.item_op, Ev.item_P, Ev.evOp, Ev.evs, Ev.Opnd.ev, Ev.Env.get, Ev.Env.set, Ev.look, Ev.argVars, Ev.cellsAt, Ev.loadC, Ev.AV.cells, Ev.plains, Ev.AV.plain, Ev.bin_sub, Ev.resVals, Ev.resVal, Ev.resOf, Ev.kill, Ev.leave, Ev.storeLo, Ev.SObj.lo, Ev.lo_v, Ev.los_nil, Ev.los_cons, Ev.loss_nil, Ev.loss_cons, List.length_map, ↓Ev.obind, ↓reduceIte, List.length_cons, List.length_nil, List.take_succ_cons, List.take_nil, List.drop_succ_cons, List.drop_zero, List.head?_cons, Nat.reduceAdd, Nat.reduceEqDiff, reduceCtorEq, Bool.and_self, Bool.not_true, Bool.not_false, Bool.false_eq_true, Bool.true_eq_false, and_self, ne_eq, not_false_eq_true, List.cons_ne_nil, Nat.zero_add, eq_self]
theorem starts_1_ev (h : CfgOk c) (l : List Start) (hl : l ∈ c.lps) : (evL T).call n_config_checker_starts_1 [(.fsl ((l).map Start.r) false), (.fptr [(.fsl ((c.lps).map lpC) false), (.fsl ((c.progs).map progC) false), (.v (.int .i64 (c.look))), (.v (.int .i64 (c.fin))), (.v (.int .i64 (c.cap)))])] [] = some ((.v (.int .i64 (firstE (startE c) l))), []) := by
  have v := first_start_ev n_config_checker_starts_1_1 [(.fptr [(.fsl ((c.lps).map lpC) false), (.fsl ((c.progs).map progC) false), (.v (.int .i64 (c.look))), (.v (.int .i64 (c.fin))), (.v (.int .i64 (c.cap)))])] (by simp only [lps_lo, progs_lo, Ev.lo_v, Ev.lo_fsl, Ev.lo_fptr, Ev.los_nil, Ev.los_cons, Bool.and_self, eq_self]) l (startE c) (h.lp l hl) fun s _ => starts_1_1_ev c h s
  rw [evL_code ext_config_checker_starts_1 code_config_checker_starts_1]
  simp only [c_config_checker_starts_1, v, starts_lo, lps_lo, progs_lo, Ev.runFunc, Ev.exec, Ev.evOpers, Ev.evOper, Ev.item_op, Ev.item_P, Ev.evOp, Ev.evs, Ev.Opnd.ev, Ev.Env.get, Ev.Env.set, Ev.look, Ev.argVars, Ev.resVals, Ev.resVal, Ev.resOf, Ev.kill, Ev.leave, Ev.storeLo, Ev.lo_v, Ev.lo_fsl, Ev.lo_fptr, Ev.lo_fn, Ev.los_nil, Ev.los_cons, ↓Ev.obind, ↓reduceIte, List.length_cons, List.length_nil, List.take_nil, Nat.reduceAdd, Nat.reduceEqDiff, reduceCtorEq, Bool.and_self, and_self, Nat.zero_add, eq_self]
theorem checker_starts_ev (h : CfgOk c) : (evL T).call n_config_checker_starts [(.agg [(.fsl ((c.lps).map lpC) false), (.fsl ((c.progs).map progC) false), (.v (.int .i64 (c.look))), (.v (.int .i64 (c.fin))), (.v (.int .i64 (c.cap)))])] [] = some ((.v (.int .i64 (firstE (firstE (startE c)) c.lps))), []) := by
  have v := first_starts_ev n_config_checker_starts_1 [(.fptr [(.fsl ((c.lps).map lpC) false), (.fsl ((c.progs).map progC) false), (.v (.int .i64 (c.look))), (.v (.int .i64 (c.fin))), (.v (.int .i64 (c.cap)))])] (by simp only [lps_lo, progs_lo, Ev.lo_v, Ev.lo_fsl, Ev.lo_fptr, Ev.los_nil, Ev.los_cons, Bool.and_self, eq_self]) c.lps (firstE (startE c)) h.lps fun l hl => starts_1_ev c h l hl
  rw [evL_code ext_config_checker_starts code_config_checker_starts]
  simp only [c_config_checker_starts, v, lps_lo, progs_lo, Ev.runFunc, Ev.exec, Ev.evOpers, Ev.evOper, Ev.item_op, Ev.item_P, Ev.evOp, Ev.evs, Ev.Opnd.ev, Ev.Env.get, Ev.Env.set, Ev.look, Ev.argVars, Ev.cellsAt, Ev.loadC, Ev.AV.cells, Ev.plains, Ev.AV.plain, Ev.resVals, Ev.resVal, Ev.resOf, Ev.kill, Ev.leave, Ev.storeLo, Ev.lo_v, Ev.lo_fsl, Ev.lo_fptr, Ev.lo_fn, Ev.los_nil, Ev.los_cons, ↓Ev.obind, ↓reduceIte, List.length_cons, List.length_nil, List.take_nil, List.drop_zero, List.head?_cons, Nat.reduceEqDiff, Bool.and_self, Bool.false_eq_true, and_self, ne_eq, not_false_eq_true, List.cons_ne_nil, Nat.zero_add, eq_self]
def ruleR (c : Cfg) (p : Nat × Int) : List AV := [.fn (.func p.1) [(.agg [(.fsl ((c.lps).map lpC) false), (.fsl ((c.progs).map progC) false), (.v (.int .i64 (c.look))), (.v (.int .i64 (c.fin))), (.v (.int .i64 (c.cap)))])] []]
theorem rule_lo (n : Nat) (p : Nat × Int) : los n (ruleR c p) = true := by simp only [ruleR, lps_lo, progs_lo, Ev.lo_v, Ev.lo_agg, Ev.lo_fsl, Ev.lo_fn, Ev.los_nil, Ev.los_cons, Bool.and_self, eq_self]
theorem rules_lo (n : Nat) (l : List (Nat × Int)) : loss n (l.map (ruleR c)) = true := loss_map (rule_lo c n) l
theorem first_func_ev (l : List (Nat × Int)) (b : Bool) (hl : l.length < 2 ^ 62) (hf : ∀ p ∈ l, (evL T).call p.1 [(.agg [(.fsl ((c.lps).map lpC) false), (.fsl ((c.progs).map progC) false), (.v (.int .i64 (c.look))), (.v (.int .i64 (c.fin))), (.v (.int .i64 (c.cap)))])] [] = some ((.v (.int .i64 (p.2))), [])) :
    callZ (evL T) n_config_first_func_api_Errno [.fsl (l.map (ruleR c)) b, .fn (.func n_config_Check_1) [] []] = some (.v (.int .i64 (firstE Prod.snd l))) := by
  have h1 : ∀ p ∈ l, (evL T).call n_config_Check_1 [.fn (.func p.1) [(.agg [(.fsl ((c.lps).map lpC) false), (.fsl ((c.progs).map progC) false), (.v (.int .i64 (c.look))), (.v (.int .i64 (c.fin))), (.v (.int .i64 (c.cap)))])] []] [] = some ((.v (.int .i64 (p.2))), []) := fun p hp => by
    have := hf p hp
    rw [evL_code ext_config_Check_1 code_config_Check_1]
    simp only [c_config_Check_1, this, Ev.runFunc, Ev.exec, Ev.evOpers, Ev.evOper, Ev.item_op, Ev.item_v, Ev.evOp, Ev.evs, Ev.Opnd.ev, Ev.Env.get, Ev.Env.set, Ev.look, Ev.argVars, Ev.resVals, Ev.resVal, Ev.resOf, Ev.kill, Ev.leave, Ev.storeLo, Ev.lo_v, ↓Ev.obind, ↓reduceIte, List.length_cons, List.length_nil, List.take_nil, List.append_nil, reduceCtorEq, and_self, Nat.zero_add, eq_self]
  have hL : ∃ y, itB (exec (evL T) itL none c_config_first_func_api_Errno_L1) (Ev.settle [1, 8, 9, 10] true 0) ⟨[(1, .fn (.func n_config_Check_1) [] []), (8, .fsl (l.map (ruleR c)) b), (9, (.v (.int .i64 (l.length)))), (10, (.v (.int .i64 (0))))], []⟩ [] = some y ∧ (l.all (fun x => decide (x.2 = 0)) = true ∧ (y.1 = .exit 0 ∧ y.2.1.marks = [] ∧ y.2.2 = []) ∨
      l.all (fun x => decide (x.2 = 0)) = false ∧ ∃ x, l.find? (fun x => !decide (x.2 = 0)) = some x ∧ (y.1 = .ret ∧ y.2.1.marks = [] ∧ y.2.2 = [] ∧ Ev.look y.2.1.vars 4 = some (.v (.int .i64 (x.2))))) := by
    refine itB_find l (fun i => ⟨[(1, .fn (.func n_config_Check_1) [] []), (8, .fsl (l.map (ruleR c)) b), (9, (.v (.int .i64 (l.length)))), (10, (.v (.int .i64 (i))))], []⟩) [] (fun x => decide (x.2 = 0)) _ (fun x y => _) ?_ ?_ ?_
    · intro i x hi hx hp
      have hi' : (i : Int) < (l.length : Int) := by omega
      have hw : IntKind.i64.wrap ((i : Int) + 1) = ((i + 1 : Nat) : Int) := by rw [w64_small (by omega) (by omega)]; simp
      have h2 := h1 x (List.mem_of_getElem? hx)
      rw [of_decide_eq_true hp] at h2
      simp only [c_config_first_func_api_Errno_L1, Int.natCast_nonneg, Int.toNat_natCast, List.getElem?_map, Option.map_some, hx, hi', hw, h2, rules_lo, ruleR, Ev.exec, Ev.evOpers, Ev.evOper, Ev.item_op, Ev.item_v, Ev.evOp, Ev.evs, Ev.Opnd.ev, Ev.Env.get, Ev.Env.set, Ev.look, Ev.cellsAt, Ev.loadC, Ev.bin_add, Ev.bin_neq, Ev.bin_lss, Ev.settle, Ev.keep, Ev.varsLo, Ev.marksLo, Ev.storeLo, Ev.lo_v, Ev.lo_fsl, Ev.lo_fn, Ev.los_nil, ↓Ev.obind, Ev.it1, ↓reduceIte, List.length_cons, List.length_nil, List.take_nil, List.nil_append, List.append_nil, List.head?_cons, Nat.reduceEqDiff, decide_true, decide_false, Bool.and_self, Bool.false_eq_true, and_self, ne_eq, not_true_eq_false, Nat.zero_add, eq_self]
    · intro i x hi hx hp
      have hi' : (i : Int) < (l.length : Int) := by omega
      have h2 := h1 x (List.mem_of_getElem? hx)
      have h3 : ¬ x.2 = 0 := of_decide_eq_false hp
      simp only [c_config_first_func_api_Errno_L1, Int.natCast_nonneg, Int.toNat_natCast, List.getElem?_map, Option.map_some, hx, hi', h2, h3, ruleR, Ev.exec, Ev.evOpers, Ev.evOper, Ev.item_op, Ev.item_v, Ev.evOp, Ev.evs, Ev.Opnd.ev, Ev.Env.get, Ev.Env.set, Ev.look, Ev.cellsAt, Ev.loadC, Ev.bin_neq, Ev.bin_lss, ↓Ev.obind, Ev.it1, ↓reduceIte, List.length_cons, List.length_nil, List.nil_append, List.append_nil, List.head?_cons, Nat.reduceEqDiff, decide_true, Bool.false_eq_true, ne_eq, not_false_eq_true, Nat.zero_add, eq_self]
      exact ⟨_, rfl, rfl, rfl, rfl, rfl⟩
    · simp only [c_config_first_func_api_Errno_L1, Int.lt_irrefl, Ev.exec, Ev.evOpers, Ev.evOper, Ev.item_op, Ev.evOp, Ev.Opnd.ev, Ev.Env.get, Ev.Env.set, Ev.look, Ev.bin_lss, ↓Ev.obind, Ev.it1, ↓reduceIte, Nat.reduceEqDiff, decide_false, Bool.false_eq_true, eq_self]
      exact ⟨_, rfl, rfl, rfl, rfl⟩
  obtain ⟨⟨y, e, σ⟩, k1, k2⟩ := hL
  simp only at k2
  rw [callZ, evL_code ext_config_first_func_api_Errno code_config_first_func_api_Errno]
  rcases k2 with ⟨k3, rfl, k4, rfl⟩ | ⟨k3, x, k5, rfl, k4, rfl, k6⟩
  · rw [firstE_all k3]
    simp only [c_config_first_func_api_Errno, k1, k4, rules_lo, Ev.runFunc, Ev.exec, Ev.evOpers, Ev.evOper, Ev.item_op, Ev.evOp, Ev.Opnd.ev, Ev.Env.get, Ev.Env.set, Ev.look, Ev.argVars, Ev.resVals, Ev.resVal, Ev.resOf, Ev.kill, Ev.leave, Ev.settle, Ev.keep, Ev.varsLo, Ev.marksLo, Ev.storeLo, Ev.lo_v, Ev.lo_fsl, Ev.lo_fn, Ev.los_nil, Ev.frz_lo, List.length_map, ↓Ev.obind, ↓Ev.itL_itB, ↓reduceIte, List.length_cons, List.length_nil, List.take_nil, Nat.reduceAdd, Nat.reduceEqDiff, reduceCtorEq, Bool.and_self, and_self, Nat.zero_add, eq_self]
  · rw [firstE_some k5]
    simp only [c_config_first_func_api_Errno, k1, k4, k6, rules_lo, Ev.runFunc, Ev.exec, Ev.evOpers, Ev.evOper, Ev.item_op, Ev.evOp, Ev.Opnd.ev, Ev.Env.get, Ev.Env.set, Ev.look, Ev.argVars, Ev.resVals, Ev.resVal, Ev.resOf, Ev.kill, Ev.leave, Ev.settle, Ev.keep, Ev.varsLo, Ev.marksLo, Ev.storeLo, Ev.lo_v, Ev.lo_fsl, Ev.lo_fn, Ev.los_nil, Ev.frz_lo, List.length_map, ↓Ev.obind, ↓Ev.itL_itB, ↓reduceIte, List.length_cons, List.length_nil, List.take_nil, Nat.reduceAdd, Nat.reduceEqDiff, reduceCtorEq, Bool.and_self, and_self, Nat.zero_add, eq_self]
def cfgL (c : Cfg) : List (Nat × Int) := [(n_config_checker_sizes, okZ (sizesB c) 1), (n_config_checker_lookahead, okZ (decide (c.look ≥ 1)) 20), (n_config_checker_programs, firstE (progZ c) c.progs), (n_config_checker_starts, firstE (firstE (startE c)) c.lps)]
def cfgZ (c : Cfg) : Int := firstE Prod.snd (cfgL c)
theorem config_Check_ev (h : CfgOk c) : callZ (evL T) n_config_Check [(.agg [(.fsl ((c.lps).map lpC) false), (.fsl ((c.progs).map progC) false), (.v (.int .i64 (c.look))), (.v (.int .i64 (c.fin))), (.v (.int .i64 (c.cap)))])] = some (.v (.int .i64 (cfgZ c))) := by
  have v := first_func_ev c (cfgL c) true (by simp [cfgL]) (by
    intro p hp
    simp only [cfgL, List.mem_cons, List.not_mem_nil, or_false] at hp
    rcases hp with rfl | rfl | rfl | rfl
    · exact checker_sizes_ev c h
    · exact checker_lookahead_ev c
    · exact checker_programs_ev c h
    · exact checker_starts_ev c h)
  rw [show firstE Prod.snd (cfgL c) = cfgZ c from rfl] at v
  have hrep : List.replicate 4 ([.v .nilFunc] : List AV) = [[.v .nilFunc], [.v .nilFunc], [.v .nilFunc], [.v .nilFunc]] := rfl
  simp only [cfgL, List.map_cons, List.map_nil, ruleR] at v
  rw [callZ, evL_code ext_config_Check code_config_Check]
  simp only [c_config_Check, hrep, v, lps_lo, progs_lo, Ev.runFunc, Ev.exec, Ev.evOpers, Ev.evOper, Ev.item_op, Ev.item_P, Ev.evOp, Ev.evs, Ev.Opnd.ev, Ev.Env.get, Ev.Env.set, Ev.look, Ev.argVars, Ev.cellsAt, Ev.loadC, Ev.fillP, Ev.fillR, Ev.AV.cells, Ev.AV.uc, Ev.plains, Ev.AV.plain, Ev.resVals, Ev.resVal, Ev.resOf, Ev.kill, Ev.leave, Ev.storeLo, Ev.lo_v, Ev.lo_agg, Ev.lo_fsl, Ev.lo_fn, Ev.los_nil, Ev.los_cons, Ev.loss_nil, Ev.loss_cons, Ev.frz_lo, ↓Ev.obind, ↓reduceIte, List.length_cons, List.length_nil, List.getElem?_cons_zero, List.take_succ_cons, List.take_zero, List.take_nil, List.drop_succ_cons, List.drop_zero, List.drop_nil, List.nil_append, List.append_nil, List.set_cons_zero, List.set_cons_succ, Nat.reduceAdd, Nat.reduceEqDiff, Nat.reduceMul, Nat.reduceLT, Nat.reduceLeDiff, Nat.reducePow, Bool.and_self, and_self, ne_eq, not_false_eq_true, List.cons_ne_nil, Nat.zero_add, Nat.lt_add_one, Nat.le_refl, eq_self]
end
end Go.Proofs.Ythkjkdbjgpeigaa.K
namespace Go.Proofs.Ythkjkdbjgpeigaa.K
open Go.Ev
set_option linter.unusedSimpArgs false
set_option linter.unusedVariables false
set_option maxRecDepth 10000
theorem cfgZ_sizes {c : Cfg} (h : sizesB c = false) : cfgZ c = 1 := by
  unfold cfgZ cfgL firstE; rw [h]; rfl
theorem cfgZ_look {c : Cfg} (h1 : sizesB c = true) (h2 : ¬ c.look ≥ 1) : cfgZ c = 20 := by
  unfold cfgZ cfgL firstE; rw [h1]; simp [h2, okZ]
theorem cfgZ_progs {c : Cfg} (h1 : sizesB c = true) (h2 : c.look ≥ 1) (h3 : firstE (progZ c) c.progs ≠ 0) : cfgZ c = firstE (progZ c) c.progs := by
  unfold cfgZ
  generalize hz : firstE (progZ c) c.progs = z at h3
  unfold cfgL
  rw [hz, h1]
  unfold firstE; simp [h2, okZ, h3]
theorem cfgZ_starts {c : Cfg} (h1 : sizesB c = true) (h2 : c.look ≥ 1) (h3 : firstE (progZ c) c.progs = 0) : cfgZ c = firstE (firstE (startE c)) c.lps := by
  unfold cfgZ
  generalize hz : firstE (firstE (startE c)) c.lps = z
  unfold cfgL
  rw [hz, h3, h1]
  by_cases h : z = 0 <;> (unfold firstE; simp [h2, okZ, h])
theorem firstE_Z {τ : Type} (f : τ → Int) (l : List τ) : firstE f l = firstZ f l := by
  unfold firstE firstZ
  cases l.find? (fun x => !decide (f x = 0)) <;> rfl
theorem rsizes_eq (c : Cfg) : rsizesB c = sizesB c := by
  rw [Bool.eq_iff_iff]
  simp only [rsizesB, sizesB, sizes0, withinB, lenB, len8, Bool.and_eq_true, decide_eq_true_eq, List.all_eq_true, Bool.not_eq_true', decide_eq_false_iff_not]
  constructor
  · rintro ⟨⟨h1, h2, h3⟩, h4, h5, h6, h7, h8⟩
    exact ⟨⟨⟨by omega, by omega⟩, by omega, ⟨by omega, by omega⟩, by omega, by omega⟩, fun x hx => by have := h4 x hx; omega⟩
  · rintro ⟨⟨⟨h1, h2⟩, h3, ⟨h4, h5⟩, h6, h7⟩, h8⟩
    exact ⟨⟨by omega, by omega, by omega⟩, fun x hx => by have := h8 x hx; omega, by omega, by omega, by omega, by omega⟩
theorem rstart_eq (c : Cfg) (s : Start) : rstartZ c s = startE c s := by
  unfold rstartZ startE okZ withinB
  by_cases h1 : s.prog < 0 ∨ s.prog ≥ c.progs.length
  · have : (decide (s.prog ≥ 0) && decide (s.prog ≤ (c.progs.length : Int) - 1)) = false := by
      rw [Bool.and_eq_false_iff]; simp only [decide_eq_false_iff_not]; omega
    rw [if_pos h1, if_pos this]
  · have : ¬ (decide (s.prog ≥ 0) && decide (s.prog ≤ (c.progs.length : Int) - 1)) = false := by
      rw [Bool.and_eq_false_iff]; simp only [decide_eq_false_iff_not]; omega
    rw [if_neg h1, if_neg this]
    by_cases h2 : s.time < 0 ∨ s.time > 1152921504606846976
    · have : ¬ (decide (s.time ≥ 0) && decide (s.time ≤ 1152921504606846976)) = true := by
        rw [Bool.and_eq_true]; simp only [decide_eq_true_eq]; omega
      rw [if_pos h2, if_neg this]
    · have : (decide (s.time ≥ 0) && decide (s.time ≤ 1152921504606846976)) = true := by
        rw [Bool.and_eq_true]; simp only [decide_eq_true_eq]; omega
      rw [if_neg h2, if_pos this]
theorem rcfgZ_eq (c : Cfg) : rcfgZ c = cfgZ c := by
  have e1 : rlpZ c = firstE (startE c) := by
    funext l; show firstZ (rstartZ c) l = _
    rw [firstE_Z, show rstartZ c = startE c from funext (rstart_eq c)]
  have e2 : rprogZ c = progZ c := rfl
  unfold rcfgZ
  rw [rsizes_eq, e1, e2, ← firstE_Z, ← firstE_Z]
  by_cases h1 : sizesB c = false
  · rw [if_pos h1, cfgZ_sizes h1]
  have h1' : sizesB c = true := by simpa using h1
  rw [if_neg h1]
  by_cases h2 : c.look < 1
  · rw [if_pos h2, cfgZ_look h1' (by omega)]
  rw [if_neg h2]
  by_cases h3 : firstE (progZ c) c.progs ≠ 0
  · rw [if_pos h3, cfgZ_progs h1' (by omega) h3]
  · rw [if_neg h3, cfgZ_starts h1' (by omega) (by simpa using h3)]
end Go.Proofs.Ythkjkdbjgpeigaa.K
namespace Go.Proofs.Ythkjkdbjgpeigaa.K
open Go.Ev
set_option linter.unusedSimpArgs false
set_option linter.unusedVariables false
set_option linter.unusedSectionVars false
set_option maxRecDepth 10000
section
variable {c : Cfg} {s : Sim} {h : List Evt} {n : Nat} {L : List (Lp × Bool)} {A : Store} {O : List (List AV)}
theorem run_ev (hn : c.lps.length = n) (lim k : Nat) (hlim : lim ≤ 60) (hk : s.n + k = lim) (H : SInv c s h) (S : SimSt n s L A O) :
    ∃ (L' : List (Lp × Bool)) (A' : Store) (O' : List (List AV)), SimSt n (Sim.run c k s) L' A' O' ∧ (evL T).call n_seqsim_simulator_run [(.ptr (n + 2) 0 0 0), (.v (.int .i64 (lim)))] (A ++ [.row 1 O 0, (.row 10 [[(.fsl ((c.lps).map lpC) false), (.fsl ((c.progs).map progC) false), (.v (.int .i64 (c.look))), (.v (.int .i64 (c.fin))), (.v (.int .i64 (c.cap))), .sl (n + 1) 0 0 n false, .sl 0 1 0 n false, (.fsl ((s.pend).map Evt.r) false), (.v (.int .i64 (s.n))), (.v (.bool (s.over)))]] 0)]) = some (.tup [], (A' ++ [.row 1 O' 0, (.row 10 [[(.fsl ((c.lps).map lpC) false), (.fsl ((c.progs).map progC) false), (.v (.int .i64 (c.look))), (.v (.int .i64 (c.fin))), (.v (.int .i64 (c.cap))), .sl (n + 1) 0 0 n false, .sl 0 1 0 n false, (.fsl (((Sim.run c k s).pend).map Evt.r) false), (.v (.int .i64 ((Sim.run c k s).n))), (.v (.bool ((Sim.run c k s).over)))]] 0)])) := by
  obtain ⟨⟨y, e, σ⟩, k1, L', A', O', S', k2, k3, k4⟩ := run_L hn lim hlim k hk H S
  simp only at k2 k3 k4
  subst k2; subst k4
  refine ⟨L', A', O', S', ?_⟩
  have hlo := S.lo (c := c)
  have hcut := pre_t3 S.len [.row 1 O 0, (.row 10 [[(.fsl ((c.lps).map lpC) false), (.fsl ((c.progs).map progC) false), (.v (.int .i64 (c.look))), (.v (.int .i64 (c.fin))), (.v (.int .i64 (c.cap))), .sl (n + 1) 0 0 n false, .sl 0 1 0 n false, (.fsl ((s.pend).map Evt.r) false), (.v (.int .i64 (s.n))), (.v (.bool (s.over)))]] 0)]
  have hlo' := S'.lo (c := c)
  have hcut' := pre_t3 S'.len [.row 1 O' 0, (.row 10 [[(.fsl ((c.lps).map lpC) false), (.fsl ((c.progs).map progC) false), (.v (.int .i64 (c.look))), (.v (.int .i64 (c.fin))), (.v (.int .i64 (c.cap))), .sl (n + 1) 0 0 n false, .sl 0 1 0 n false, (.fsl (((Sim.run c k s).pend).map Evt.r) false), (.v (.int .i64 ((Sim.run c k s).n))), (.v (.bool ((Sim.run c k s).over)))]] 0)]
  have d2 : n + 2 < n + 3 := by omega
  simp only [List.take_succ_cons, List.take_zero] at hcut hcut'
  rw [evL_code ext_seqsim_simulator_run code_seqsim_simulator_run]
  simp only [c_seqsim_simulator_run, S.len, Nat.add_assoc, hlo, hcut, hlo', hcut', d2, k1, k3, Ev.runFunc, Ev.exec, Ev.Env.get, Ev.look, Ev.argVars, Ev.resVals, Ev.resOf, Ev.kill, Ev.leave, Ev.settle, Ev.keep, Ev.varsLo, Ev.marksLo, Ev.lo_v, Ev.lo_tup, Ev.lo_ptr, Ev.los_nil, ↓Ev.obind, ↓Ev.itL_itB, ↓reduceIte, List.length_cons, List.length_nil, List.length_append, Nat.reduceAdd, reduceCtorEq, decide_true, Bool.and_self, and_self, Nat.zero_add, eq_self]
theorem states_call (h : Small12 c) : ∃ (R : List (List AV)) (τ : Store), (evL T).call n_config_States [(.agg [(.fsl ((c.lps).map lpC) false), (.fsl ((c.progs).map progC) false), (.v (.int .i64 (c.look))), (.v (.int .i64 (c.fin))), (.v (.int .i64 (c.cap)))])] [] = some (.sl 0 0 0 c.lps.length true, .row 4 R 0 :: τ) ∧ omap (omap (Ev.frz (.dead :: τ) 5)) R = some ((statesL c.lps).map lpF) := by
  obtain ⟨⟨y, e, σ⟩, k1, R, τ, k2, k3, k4, k5, k6⟩ := states_outer c h
  simp only at k1 k2 k3 k4 k5 k6
  subst k2; subst k4
  have hlps := h.lps
  have b1 : (c.lps.length : Int) * 48 ≤ 140737488355328 := by omega
  have b1' : 48 * (c.lps.length : Int) ≤ 140737488355328 := by omega
  have b2 : (c.lps.length : Int) ≤ 4611686018427387904 := by omega
  refine ⟨R, τ, ?_, ?_⟩
  · rw [evL_code ext_config_States code_config_States]
    simp only [c_config_States, Int.natCast_nonneg, Int.toNat_natCast, b1', b2, k1, k3, k6, Int.le_refl, Ev.runFunc, Ev.exec, Ev.evOpers, Ev.evOper, Ev.item_op, Ev.evOp, Ev.Opnd.ev, Ev.Env.get, Ev.Env.set, Ev.look, Ev.argVars, Ev.cellsAt, Ev.loadC, Ev.AV.cells, Ev.plains, Ev.AV.plain, Ev.resVals, Ev.resVal, Ev.resOf, Ev.kill, Ev.leave, Ev.settle, Ev.keep, Ev.storeLo, Ev.lo_sl, List.length_map, ↓Ev.obind, ↓Ev.itL_itB, ↓reduceIte, List.length_cons, List.length_nil, List.take_zero, List.drop_zero, List.nil_append, List.head?_cons, Nat.reduceAdd, Nat.reduceEqDiff, Nat.reduceLT, Int.reducePow, Int.cast_ofNat_Int, decide_true, decide_false, Bool.and_self, Bool.false_eq_true, and_self, and_true, ne_eq, not_false_eq_true, List.cons_ne_nil, Nat.zero_add, eq_self]
  · exact (k5.mono (σ' := .dead :: τ) (Nat.le_refl _) (fun o h1 h2 => by
      obtain ⟨o, rfl⟩ : ∃ p, o = p + 1 := ⟨o - 1, by omega⟩
      rw [List.getElem?_cons_succ, List.getElem?_cons_succ])).frz (d := 4)
theorem start_ev (hn : c.lps.length = n) (h : Small12 c) :
    ∃ (A : Store) (O : List (List AV)), SimSt n (start c) (statesL c.lps) A O ∧ (evL T).call n_seqsim_start [(.agg [(.fsl ((c.lps).map lpC) false), (.fsl ((c.progs).map progC) false), (.v (.int .i64 (c.look))), (.v (.int .i64 (c.fin))), (.v (.int .i64 (c.cap)))])] [] = some ((.ptr (n + 2) 0 0 0), (A ++ [.row 1 O 0, (.row 10 [[(.fsl ((c.lps).map lpC) false), (.fsl ((c.progs).map progC) false), (.v (.int .i64 (c.look))), (.v (.int .i64 (c.fin))), (.v (.int .i64 (c.cap))), .sl (n + 1) 0 0 n false, .sl 0 1 0 n false, (.fsl (((start c).pend).map Evt.r) false), (.v (.int .i64 ((start c).n))), (.v (.bool ((start c).over)))]] 0)])) := by
  obtain ⟨R, τ, hs, hf⟩ := states_call (c := c) h
  have hi := config_Initial_ev c h
  have hlps := h.lps
  have hlo : storeLo (n + 1) (.row 4 ((statesL c.lps).map lpF) 1 :: List.replicate n (.row 6 [] 0)) = true := by
    rw [storeLo_mem]
    intro x hx
    rcases List.mem_cons.1 hx with rfl | hx
    · rw [lo_row]; exact lpFs_lo _ _
    · rw [List.eq_of_mem_replicate hx, lo_row, loss_nil]
  have hO : loss (n + 1) ((List.range n).map fun i => [(.sl (1 + i) 0 0 0 false : AV)]) = true := by
    have : ∀ (l : List Nat), (∀ i ∈ l, i < n) → loss (n + 1) (l.map fun i => [(.sl (1 + i) 0 0 0 false : AV)]) = true := by
      intro l
      induction l with
      | nil => intro _; exact loss_nil _
      | cons a l ih =>
        intro hl
        have ha := hl a (by simp)
        have d : 1 + a < n + 1 := by omega
        rw [List.map_cons, loss_cons, ih (fun i hi => hl i (by simp [hi]))]
        simp only [los_cons, los_nil, lo_sl, d, decide_true, Bool.and_self]
    exact this _ (fun i hi => List.mem_range.1 hi)
  refine ⟨.row 4 ((statesL c.lps).map lpF) 1 :: List.replicate n (.row 6 [] 0), (List.range n).map fun i => [.sl (1 + i) 0 0 0 false], ⟨by simp, rfl, by simp [statesL, stPs, hn], rfl, ?_, by simp [K.start, hn], by simp, ?_, hlo, hO⟩, ?_⟩
  · intro x hx hf
    simp only [statesL, stPs, List.mem_map] at hx
    obtain ⟨ps, ⟨l, _, rfl⟩, rfl⟩ := hx
    simpa [stLp] using hf
  · intro i hi
    have : trAt (start c) i = [] := by unfold trAt; simp [K.start, hn, hi]
    refine ⟨0, ?_, ?_⟩
    · rw [this, List.getElem?_cons_succ, List.getElem?_replicate, if_pos hi]; rfl
    · rw [this, List.getElem?_map, List.getElem?_range hi, Option.map_some, Nat.add_comm]; rfl
  · have b1 : 24 * (n : Int) ≤ 140737488355328 := by omega
    have b2 : (n : Int) ≤ 4611686018427387904 := by omega
    have b3 : (n : Int) * 24 ≤ 140737488355328 := by omega
    rw [hn] at hs
    have e1 : (start c).pend = sortL (initL c.lps) := rfl
    have e2 : (start c).n = 0 := rfl
    have e3 : (start c).over = false := rfl
    rw [e1, e2, e3]
    have d1 : n + 1 + 1 = n + 2 := rfl
    rw [evL_code ext_seqsim_start code_seqsim_start]
    simp only [c_seqsim_start, Int.natCast_nonneg, Int.toNat_natCast, hn, hs, hf, hi, b1, b2, d1, List.set_cons_zero, List.append_assoc, Nat.not_lt_zero, lps_lo, progs_lo, Ev.runFunc, Ev.exec, Ev.evOpers, Ev.evOper, Ev.item_op, Ev.item_P, Ev.item_H, Ev.evOp, Ev.evs, Ev.Opnd.ev, Ev.Env.get, Ev.Env.set, Ev.look, Ev.argVars, Ev.cellsAt, Ev.loadC, Ev.fillP, Ev.AV.cells, Ev.AV.uc, Ev.plains, Ev.AV.plain, Ev.resVals, Ev.resVal, Ev.resOf, Ev.kill, Ev.leave, Ev.storeLo, Ev.lo_v, Ev.lo_agg, Ev.lo_fsl, Ev.lo_ptr, Ev.los_nil, Ev.los_cons, List.length_replicate, List.length_map, ↓Ev.obind, ↓reduceIte, List.length_cons, List.length_nil, List.length_append, List.getElem?_cons_zero, List.take_succ_cons, List.take_zero, List.take_nil, List.drop_succ_cons, List.drop_zero, List.cons_append, List.nil_append, List.set_cons_zero, List.head?_cons, Nat.reduceAdd, Nat.reduceEqDiff, Nat.reduceLT, Nat.reduceLeDiff, Int.reducePow, Int.cast_ofNat_Int, decide_false, Bool.and_self, Bool.false_eq_true, and_self, and_true, ne_eq, not_false_eq_true, List.cons_ne_nil, Nat.zero_add, Nat.le_refl, eq_self]
    rw [Nat.add_comm 1 n]
mutual
theorem shift_zero : ∀ (a : AV), a.shift 0 = a
  | .v _ => by simp only [AV.shift]
  | .agg cs => by simp only [AV.shift, shifts_zero cs]
  | .tup cs => by simp only [AV.shift, shifts_zero cs]
  | .fsl es c => by simp only [AV.shift, shiftss_zero es]
  | .fptr cs => by simp only [AV.shift, shifts_zero cs]
  | .sl o g off len c => by simp only [AV.shift, Nat.add_zero]
  | .ptr o g i off => by simp only [AV.shift, Nat.add_zero]
  | .fn f a b => by simp only [AV.shift, shifts_zero a, shifts_zero b]
  | .yld o => by simp only [AV.shift, Nat.add_zero]
  | .mp o => by simp only [AV.shift, Nat.add_zero]
theorem shifts_zero : ∀ (l : List AV), shifts 0 l = l
  | [] => by simp only [shifts]
  | a :: l => by simp only [shifts, shift_zero a, shifts_zero l]
theorem shiftss_zero : ∀ (l : List (List AV)), shiftss 0 l = l
  | [] => by simp only [shiftss]
  | a :: l => by simp only [shiftss, shifts_zero a, shiftss_zero l]
end
theorem omap_of {α β : Type} {f : α → Option β} : ∀ {l : List α} {t : List β}, l.length = t.length → (∀ (i : Nat) (a : α) (b : β), l[i]? = some a → t[i]? = some b → f a = some b) → omap f l = some t
  | [], [], _, _ => rfl
  | a :: l, b :: t, hl, h => by
    rw [omap_cons, h 0 a b rfl rfl, omap_of (by simpa using hl) (fun i a b h1 h2 => h (i + 1) a b h1 h2)]; rfl
  | [], _ :: _, h, _ => by simp at h
  | _ :: _, [], h, _ => by simp at h
theorem SimSt.frzO (S : SimSt n s L A O) (d : Nat) (B : Store) : omap (omap (Ev.frz (A ++ B) (d + 1))) O = some (s.trace.map evtsC) := by
  refine omap_of (by rw [List.length_map, S.ol, S.trl]) (fun i a b h1 h2 => ?_)
  have hi : i < n := by have := (List.getElem?_eq_some_iff.1 h1).1; rw [S.ol] at this; exact this
  obtain ⟨g, t1, t2⟩ := S.tr i hi
  rw [t2] at h1; cases h1
  have t3 : s.trace[i]? = some (trAt s i) := by
    unfold trAt; rw [Int.toNat_natCast, List.getElem?_eq_getElem (by rw [S.trl]; exact hi)]; rfl
  rw [List.getElem?_map, t3] at h2; cases h2
  have hs : (A ++ B)[i + 1]? = some (.row 6 ((trAt s i).map Evt.r) g) := by rw [List.getElem?_append_left (by rw [S.len]; omega)]; exact t1
  have tk : List.take (trAt s i).length (List.drop 0 ((trAt s i).map Evt.r)) = (trAt s i).map Evt.r := by rw [List.drop_zero]; exact List.take_of_length_le (by simp)
  rw [omap_cons, omap_nil, frz_sl hs (by simp) (by rw [tk]; exact evts_lo _ _), tk]
  rfl
def isRow : SObj → Bool
  | .row .. => true
  | _ => false
theorem imp_zero {σ : Store} (h : ∀ x ∈ σ, isRow x = true) : omap (impO 0) σ = some σ := by
  refine omap_of rfl (fun i a b h1 h2 => ?_)
  rw [h1] at h2; cases h2
  have := h a (List.mem_of_getElem? h1)
  cases a <;> simp only [isRow, Bool.false_eq_true] at this
  simp only [impO, shiftss_zero]
theorem SimSt.imp (S : SimSt n s L A O) : omap (impO 0) (A ++ [.row 1 O 0, (.row 10 [[(.fsl ((c.lps).map lpC) false), (.fsl ((c.progs).map progC) false), (.v (.int .i64 (c.look))), (.v (.int .i64 (c.fin))), (.v (.int .i64 (c.cap))), .sl (n + 1) 0 0 n false, .sl 0 1 0 n false, (.fsl ((s.pend).map Evt.r) false), (.v (.int .i64 (s.n))), (.v (.bool (s.over)))]] 0)]) = some (A ++ [.row 1 O 0, (.row 10 [[(.fsl ((c.lps).map lpC) false), (.fsl ((c.progs).map progC) false), (.v (.int .i64 (c.look))), (.v (.int .i64 (c.fin))), (.v (.int .i64 (c.cap))), .sl (n + 1) 0 0 n false, .sl 0 1 0 n false, (.fsl ((s.pend).map Evt.r) false), (.v (.int .i64 (s.n))), (.v (.bool (s.over)))]] 0)]) := by
  refine imp_zero (fun x hx => ?_)
  rcases List.mem_append.1 hx with hx | hx
  · obtain ⟨i, hi⟩ := List.mem_iff_getElem?.1 hx
    have hl := (List.getElem?_eq_some_iff.1 hi).1
    rw [S.len] at hl
    cases i with
    | zero => rw [S.lps] at hi; cases hi; rfl
    | succ i => obtain ⟨g, t1, _⟩ := S.tr i (by omega); rw [t1] at hi; cases hi; rfl
  · simp only [List.mem_cons, List.not_mem_nil, or_false] at hx
    rcases hx with rfl | rfl <;> rfl
def errZ (c : Cfg) (s : Sim) : Int := if s.ready c = true then 10 else if s.over = true then 11 else 0
theorem Run_ev (hn : c.lps.length = n) (h12 : Small12 c) (hok : CfgOk c) (hz : cfgZ c = 0) (hv : Valid c) (lim : Nat) (hlim : lim ≤ 60) :
    ∃ L : List (Lp × Bool), L.map Prod.fst = (Sim.run c lim (start c)).lps ∧ (∀ x ∈ L, x.2 = true → x.1.procs = []) ∧
      callZ (evL T) n_seqsim_Run [(.agg [(.fsl ((c.lps).map lpC) false), (.fsl ((c.progs).map progC) false), (.v (.int .i64 (c.look))), (.v (.int .i64 (c.fin))), (.v (.int .i64 (c.cap)))]), (.v (.int .i64 (lim)))] = some (.tup [(.fsl (((Sim.run c lim (start c)).trace).map evtsC) false), (.fsl ((L).map lpF) false), (.v (.int .i64 (errZ c (Sim.run c lim (start c)))))]) := by
  have hk := config_Check_ev c hok
  rw [hz] at hk
  obtain ⟨A0, O0, S0, h0⟩ := start_ev (c := c) hn h12
  obtain ⟨L, A, O, S, h1⟩ := run_ev hn lim lim hlim (by show 0 + lim = lim; omega) (SInv.start hv) S0
  have h2 := ready_ev (c := c) (s := Sim.run c lim (start c)) (O := O) S.len
  refine ⟨L, S.lpf, S.flag, ?_⟩
  have i1 := S0.imp (c := c)
  have fO := fun d B => S.frzO d B
  have tO : O.take n = O := List.take_of_length_le (by rw [S.ol]; omega)
  have tL : (L.map lpF).take n = L.map lpF := List.take_of_length_le (by rw [List.length_map, S.lpl]; omega)
  have hA0 := S.lps
  have p1 := fun B => pre_old S.len B 0 (by omega)
  have hOl := S.ol
  have hLl := S.lpl
  have hle : n ≤ n := Nat.le_refl _
  rw [callZ, evL_code ext_seqsim_Run code_seqsim_Run]
  unfold errZ
  cases hr : (Sim.run c lim (start c)).ready c with
  | true =>
    rw [hr] at h2
    simp only [c_seqsim_Run, pre_g1 S.len, pre_g2 S.len, hk, h0, i1, h1, h2, p1, hA0, fO, tO, tL, hOl, hLl, hle, lpFs_lo, lps_lo, progs_lo, Ev.runFunc, Ev.exec, Ev.evOpers, Ev.evOper, Ev.item_op, Ev.item_P, Ev.item_A, Ev.item_I, Ev.AV.shift, Ev.evOp, Ev.evs, Ev.Opnd.ev, Ev.Env.get, Ev.Env.set, Ev.look, Ev.argVars, Ev.cellsAt, Ev.loadC, Ev.AV.cells, Ev.plains, Ev.AV.plain, Ev.bin_neq, Ev.resVals, Ev.resVal, Ev.resOf, Ev.kill, Ev.leave, Ev.storeLo, Ev.lo_v, Ev.lo_agg, Ev.lo_tup, Ev.lo_fsl, Ev.lo_sl, Ev.los_nil, Ev.los_cons, Ev.frz_lo, Ev.frz_tup, Ev.frz_own, Ev.omap_los, Ev.omap_nil, Ev.omap_cons, List.length_map, ↓Ev.obind, ↓reduceIte, List.length_cons, List.length_nil, List.getElem?_cons_zero, List.getElem?_cons_succ, List.take_succ_cons, List.take_zero, List.take_nil, List.drop_succ_cons, List.drop_zero, List.nil_append, List.head?_cons, Nat.reduceAdd, Nat.reduceEqDiff, Nat.reduceLT, reduceCtorEq, decide_false, Bool.and_self, Bool.and_true, Bool.false_eq_true, and_self, and_true, ne_eq, not_false_eq_true, not_true_eq_false, List.cons_ne_nil, Nat.zero_add, Nat.add_zero, Nat.le_refl, eq_self, Bool.and_false]
    done
  | false =>
    rw [hr] at h2
    cases ho : (Sim.run c lim (start c)).over with
    | true =>
      rw [ho] at h1 h2
      simp only [c_seqsim_Run, pre_g1 S.len, pre_g2 S.len, hk, h0, i1, h1, h2, p1, hA0, fO, tO, tL, hOl, hLl, hle, lpFs_lo, lps_lo, progs_lo, Ev.runFunc, Ev.exec, Ev.evOpers, Ev.evOper, Ev.item_op, Ev.item_P, Ev.item_A, Ev.item_I, Ev.AV.shift, Ev.evOp, Ev.evs, Ev.Opnd.ev, Ev.Env.get, Ev.Env.set, Ev.look, Ev.argVars, Ev.cellsAt, Ev.loadC, Ev.AV.cells, Ev.plains, Ev.AV.plain, Ev.bin_neq, Ev.resVals, Ev.resVal, Ev.resOf, Ev.kill, Ev.leave, Ev.storeLo, Ev.lo_v, Ev.lo_agg, Ev.lo_tup, Ev.lo_fsl, Ev.lo_sl, Ev.los_nil, Ev.los_cons, Ev.frz_lo, Ev.frz_tup, Ev.frz_own, Ev.omap_los, Ev.omap_nil, Ev.omap_cons, List.length_map, ↓Ev.obind, ↓reduceIte, List.length_cons, List.length_nil, List.getElem?_cons_zero, List.getElem?_cons_succ, List.take_succ_cons, List.take_zero, List.take_nil, List.drop_succ_cons, List.drop_zero, List.nil_append, List.head?_cons, Nat.reduceAdd, Nat.reduceEqDiff, Nat.reduceLT, reduceCtorEq, decide_false, Bool.and_self, Bool.and_true, Bool.false_eq_true, and_self, and_true, ne_eq, not_false_eq_true, not_true_eq_false, List.cons_ne_nil, Nat.zero_add, Nat.add_zero, Nat.le_refl, eq_self, Bool.and_false]
      done
    | false =>
      rw [ho] at h1 h2
      simp only [c_seqsim_Run, pre_g1 S.len, pre_g2 S.len, hk, h0, i1, h1, h2, p1, hA0, fO, tO, tL, hOl, hLl, hle, lpFs_lo, lps_lo, progs_lo, Ev.runFunc, Ev.exec, Ev.evOpers, Ev.evOper, Ev.item_op, Ev.item_P, Ev.item_A, Ev.item_I, Ev.AV.shift, Ev.evOp, Ev.evs, Ev.Opnd.ev, Ev.Env.get, Ev.Env.set, Ev.look, Ev.argVars, Ev.cellsAt, Ev.loadC, Ev.AV.cells, Ev.plains, Ev.AV.plain, Ev.bin_neq, Ev.resVals, Ev.resVal, Ev.resOf, Ev.kill, Ev.leave, Ev.storeLo, Ev.lo_v, Ev.lo_agg, Ev.lo_tup, Ev.lo_fsl, Ev.lo_sl, Ev.los_nil, Ev.los_cons, Ev.frz_lo, Ev.frz_tup, Ev.frz_own, Ev.omap_los, Ev.omap_nil, Ev.omap_cons, List.length_map, ↓Ev.obind, ↓reduceIte, List.length_cons, List.length_nil, List.getElem?_cons_zero, List.getElem?_cons_succ, List.take_succ_cons, List.take_zero, List.take_nil, List.drop_succ_cons, List.drop_zero, List.nil_append, List.head?_cons, Nat.reduceAdd, Nat.reduceEqDiff, Nat.reduceLT, reduceCtorEq, decide_false, Bool.and_self, Bool.and_true, Bool.false_eq_true, and_self, and_true, ne_eq, not_false_eq_true, not_true_eq_false, List.cons_ne_nil, Nat.zero_add, Nat.add_zero, Nat.le_refl, eq_self, Bool.and_false]
      done
end
end Go.Proofs.Ythkjkdbjgpeigaa.K
namespace Go.Proofs.Ythkjkdbjgpeigaa.K
open Go.Ev
set_option linter.unusedSimpArgs false
set_option linter.unusedVariables false
set_option maxRecDepth 10000
theorem own_perm0 (h : List Evt) : ∀ n : Nat, ((List.range n).map fun i => ownOf h i).flatten.Perm (h.filter fun e => decide (0 ≤ e.lp ∧ e.lp < (n : Int)))
  | 0 => by
    have : h.filter (fun e => decide (0 ≤ e.lp ∧ e.lp < ((0 : Nat) : Int))) = [] := List.filter_eq_nil_iff.2 (fun e _ => by simp only [decide_eq_true_eq]; omega)
    rw [this]; exact .refl _
  | n + 1 => by
    rw [List.range_succ, List.map_append, List.flatten_append]
    refine (List.Perm.append (own_perm0 h n) (.refl _)).trans ?_
    have e1 : h.filter (fun e => decide (0 ≤ e.lp ∧ e.lp < (n : Int))) = (h.filter fun e => decide (0 ≤ e.lp ∧ e.lp < ((n + 1 : Nat) : Int))).filter (fun e => decide (e.lp < (n : Int))) := by
      rw [List.filter_filter]
      refine List.filter_congr (fun e _ => ?_)
      rw [← Bool.decide_and]
      refine decide_eq_decide.2 ?_
      omega
    have e2 : ([ownOf h n].flatten : List Evt) = (h.filter fun e => decide (0 ≤ e.lp ∧ e.lp < ((n + 1 : Nat) : Int))).filter (fun e => !decide (e.lp < (n : Int))) := by
      rw [List.filter_filter, List.flatten_cons, List.flatten_nil, List.append_nil]
      refine List.filter_congr (fun e _ => ?_)
      rw [← decide_not, ← Bool.decide_and]
      refine decide_eq_decide.2 ?_
      omega
    rw [e1, List.map_cons, List.map_nil, e2]
    exact List.filter_append_perm _ _
theorem own_perm {h : List Evt} {n : Nat} (hl : ∀ e ∈ h, 0 ≤ e.lp ∧ e.lp < (n : Int)) : ((List.range n).map fun i => ownOf h i).flatten.Perm h := by
  have := own_perm0 h n
  rwa [List.filter_eq_self.2 (fun e he => by simpa using hl e he)] at this
section
variable {c : Cfg} {s : Sim} {h : List Evt}
theorem SInv.traces (H : SInv c s h) : s.trace = (List.range c.lps.length).map fun i => ownOf h i := by
  refine List.ext_getElem? (fun i => ?_)
  by_cases hi : i < c.lps.length
  · rw [H.tr i hi, List.getElem?_map, List.getElem?_range hi]; rfl
  · rw [List.getElem?_eq_none (by rw [H.trl]; omega), List.getElem?_eq_none (by simp; omega)]
theorem SInv.perm (H : SInv c s h) : s.trace.flatten.Perm h := by
  rw [H.traces]
  exact own_perm (fun e he => (H.ev e (List.mem_append_left _ he)).lp)
theorem SInv.count (H : SInv c s h) : s.trace.flatten.length = h.length := H.perm.length_eq
theorem SInv.flatKeys (H : SInv c s h) : KeyNe s.trace.flatten := KeyNe.perm (List.pairwise_append.1 H.keys).1 H.perm
theorem SInv.mem (H : SInv c s h) {i : Nat} {x : List Evt} (hx : s.trace[i]? = some x) : ∀ e ∈ x, e ∈ h ∧ e.lp = i := by
  have hi := (List.getElem?_eq_some_iff.1 hx).1
  rw [H.trl] at hi
  rw [H.tr i hi] at hx; cases hx
  intro e he
  unfold ownOf at he
  rw [List.mem_filter] at he
  exact ⟨he.1, by simpa using he.2⟩
theorem SInv.lt (H : SInv c s h) {i : Nat} {x : List Evt} (hx : s.trace[i]? = some x) : x.Pairwise (fun a b => cmpE a b < 0) := by
  have hi := (List.getElem?_eq_some_iff.1 hx).1
  rw [H.trl] at hi
  rw [H.tr i hi] at hx; cases hx
  have h1 : (ownOf h i).Sublist h := List.filter_sublist
  have h2 := List.Pairwise.sublist h1 H.ord
  have h3 := List.Pairwise.sublist h1 (List.pairwise_append.1 H.keys).1
  refine (h2.and h3).imp (fun {a b} hab => ?_)
  have := hab.2
  have h4 : ¬ cmpE a b = 0 := fun e => hab.2 ((cmpE_zero _ _).1 e).2
  have := hab.1
  unfold leE at this; omega
theorem ran (hv : Valid c) (lim : Nat) (hl : lim ≤ 60) : ∃ h, SInv c (Sim.run c lim (start c)) h ∧ h.length ≤ lim ∧ (h.length = lim ∨ (Sim.run c lim (start c)).ready c = false) := by
  obtain ⟨h, h1, h2, h3⟩ := SInv.run lim (SInv.start hv) (by simpa using hl)
  exact ⟨h, by simpa using h1, h2, h3⟩
theorem run_stop {d : Nat} (hr : s.ready c = false) : Sim.run c d s = s := by
  cases d with
  | zero => rfl
  | succ d => rw [Sim.run, if_neg (by rw [hr]; exact Bool.false_ne_true)]
theorem ran2 (hv : Valid c) (m d : Nat) (hl : m + d ≤ 60) : ∃ h h', SInv c (Sim.run c m (start c)) h ∧ SInv c (Sim.run c (m + d) (start c)) (h ++ h') ∧ h.length = min m (h ++ h').length ∧
    ((Sim.run c (m + d) (start c)).ready c = true → (h ++ h').length = m + d) := by
  obtain ⟨h, h1, h2, h3⟩ := ran hv m (by omega)
  obtain ⟨h', k1, k2, k3⟩ := SInv.run d h1 (by omega)
  rw [← run_add] at k1 k3
  refine ⟨h, h', h1, k1, ?_, fun hr => ?_⟩
  · rcases h3 with h3 | h3
    · rw [List.length_append]; omega
    · have e := run_stop (d := d) h3
      rw [← run_add] at e
      have n1 := k1.n
      rw [e, h1.n] at n1
      omega
  · rcases h3 with h3 | h3
    · rcases k3 with k3 | k3
      · rw [List.length_append]; omega
      · rw [k3] at hr; cases hr
    · have e := run_stop (d := d) h3
      rw [← run_add] at e
      rw [e, h3] at hr; cases hr
end
end Go.Proofs.Ythkjkdbjgpeigaa.K
namespace Go.Proofs.Ythkjkdbjgpeigaa.K
open Go.Ev
set_option linter.unusedSimpArgs false
set_option linter.unusedVariables false
set_option linter.unusedSectionVars false
set_option maxRecDepth 10000
theorem Commits_ev (xs : List (List Evt)) (cl : Bool) (hx : xs.length ≤ 1000000) (hT : xs.flatten.length ≤ 1000000) : callZ (evL T) n_seqsim_Commits [(.fsl ((xs).map evtsC) cl)] = some (.v (.int .i64 (xs.flatten.length))) := by
  by_cases hne : xs = []
  · subst hne
    have h := concat_nil cl
    rw [callZ, evL_code ext_seqsim_Commits code_seqsim_Commits]
    simp only [c_seqsim_Commits, List.map_nil, h, Ev.runFunc, Ev.exec, Ev.evOpers, Ev.evOper, Ev.item_op, Ev.item_A, Ev.AV.shift, Ev.evOp, Ev.evs, Ev.Opnd.ev, Ev.Env.get, Ev.Env.set, Ev.look, Ev.argVars, Ev.resVals, Ev.resVal, Ev.resOf, Ev.kill, Ev.leave, Ev.storeLo, Ev.lo_v, Ev.lo_fsl, Ev.los_nil, Ev.los_cons, Ev.loss_nil, Ev.frz_lo, Ev.omap_nil, Ev.shiftss_lo, ↓Ev.obind, ↓reduceIte, List.length_cons, List.length_nil, List.take_nil, List.append_nil, Int.cast_ofNat_Int, reduceCtorEq, Bool.and_self, and_self, Nat.zero_add, eq_self]
    rfl
  · obtain ⟨g, h⟩ := concat_ev xs cl hx hT hne
    rw [callZ, evL_code ext_seqsim_Commits code_seqsim_Commits]
    simp only [c_seqsim_Commits, h, shiftss_lo, evts_lo, evss_lo, Ev.runFunc, Ev.exec, Ev.evOpers, Ev.evOper, Ev.item_op, Ev.item_A, Ev.impO, Ev.AV.shift, Ev.evOp, Ev.evs, Ev.Opnd.ev, Ev.Env.get, Ev.Env.set, Ev.look, Ev.argVars, Ev.resVals, Ev.resVal, Ev.resOf, Ev.kill, Ev.leave, Ev.storeLo, Ev.lo_v, Ev.lo_fsl, Ev.los_nil, Ev.los_cons, Ev.frz_lo, Ev.omap_nil, Ev.omap_cons, Ev.shiftss_lo, ↓Ev.obind, ↓reduceIte, List.length_cons, List.length_nil, List.take_zero, List.nil_append, reduceCtorEq, Bool.and_self, and_self, Nat.zero_add, Nat.add_zero, eq_self]
theorem Prefix_ev (a b : List (List Evt)) (ca cb : Bool) (hl : a.length = b.length) (hal : a.length ≤ 1000000) (hp : ∀ (i : Nat) x y, a[i]? = some x → b[i]? = some y → ∃ t, y = x ++ t) (hs : ∀ x ∈ b, x.length ≤ 1000000) (hk : ∀ x ∈ b, ∀ e ∈ x, e.key.length ≤ 9223372036854775807) :
    callZ (evL T) n_ref21_Prefix [(.fsl ((a).map evtsC) ca), (.fsl ((b).map evtsC) cb)] = some (.v (.bool (true))) := by
  have hL : ∃ y, itB (exec (evL T) itL none c_ref21_Prefix_L1) (Ev.settle [0, 1, 5] true 0) ⟨[(0, (.fsl ((a).map evtsC) ca)), (1, (.fsl ((b).map evtsC) cb)), (5, (.v (.int .i64 ((0 : Nat)))))], []⟩ [] = some y ∧ (y.1 = .exit 0 ∧ y.2.1.marks = [] ∧ y.2.2 = []) := by
    refine itB_each a (fun i => ⟨[(0, (.fsl ((a).map evtsC) ca)), (1, (.fsl ((b).map evtsC) cb)), (5, (.v (.int .i64 (i))))], []⟩) [] _ ?_ ?_
    · intro i x hi hx
      obtain ⟨y, hy⟩ : ∃ y, b[i]? = some y := ⟨_, List.getElem?_eq_getElem (by omega)⟩
      obtain ⟨t, rfl⟩ := hp i x y hx hy
      have hi' : (i : Int) < (a.length : Int) := by omega
      have hw : IntKind.i64.wrap ((i : Int) + 1) = ((i + 1 : Nat) : Int) := by rw [w64_small (by omega) (by omega)]; simp
      have hyl := hs _ (List.mem_of_getElem? hy)
      have hyk := hk _ (List.mem_of_getElem? hy)
      rw [List.length_append] at hyl
      have hxk : ∀ e ∈ x, e.key.length ≤ 9223372036854775807 := fun e he => hyk e (List.mem_append_left _ he)
      have he := SameEvents_ev x x false false (by omega) (by omega) hxk hxk
      rw [decide_eq_true rfl] at he
      have c1 : ¬ (x.length : Int) > ((x.length + t.length : Nat) : Int) := by omega
      have c2 : (x.length : Int) ≤ ((x.length + t.length : Nat) : Int) := by omega
      have tk : List.take x.length (x.map Evt.r ++ t.map Evt.r) = x.map Evt.r := List.take_left' (by simp)
      have ok : okRows 6 (x.map Evt.r ++ t.map Evt.r) = true := by rw [← List.map_append]; exact evts_ok _
      have d1 : decide (((x.length : Nat) : Int) = ((x.length + t.length : Nat) : Int)) = decide (t.length = 0) := by
        refine decide_eq_decide.2 ?_; omega
      simp only [c_ref21_Prefix_L1, Int.natCast_nonneg, Int.toNat_natCast, List.getElem?_map, Option.map_some, hx, hy, hi', hw, c1, c2, tk, ok, he, evtsC, evss_lo, evts_lo, List.map_append, Int.le_refl, Nat.sub_zero, Ev.exec, Ev.evOpers, Ev.evOper, Ev.item_op, Ev.item_P, Ev.evOp, Ev.evs, Ev.Opnd.ev, Ev.Env.get, Ev.Env.set, Ev.look, Ev.optInt, Ev.cellsAt, Ev.loadC, Ev.bin_add, Ev.bin_lss, Ev.bin_gtr, Ev.settle, Ev.keep, Ev.varsLo, Ev.marksLo, Ev.storeLo, Ev.lo_v, Ev.lo_fsl, Ev.los_nil, Ev.los_cons, List.length_map, ↓Ev.obind, Ev.it1, ↓reduceIte, List.length_cons, List.length_nil, List.length_append, List.take_nil, List.drop_zero, List.head?_cons, Nat.reduceEqDiff, Int.reduceToNat, reduceCtorEq, decide_true, decide_false, Bool.and_self, Bool.not_true, Bool.false_eq_true, and_self, Nat.zero_add, Option.isSome_some, Option.isSome_none, eq_self, implies_true, Bool.false_and]
    · simp only [c_ref21_Prefix_L1, Int.lt_irrefl, Ev.exec, Ev.evOpers, Ev.evOper, Ev.item_op, Ev.evOp, Ev.Opnd.ev, Ev.Env.get, Ev.Env.set, Ev.look, Ev.bin_lss, List.length_map, ↓Ev.obind, Ev.it1, ↓reduceIte, Nat.reduceEqDiff, reduceCtorEq, decide_false, Bool.false_eq_true, eq_self]
      exact ⟨_, rfl, rfl, rfl, rfl⟩
  obtain ⟨⟨y, e, σ⟩, k1, k2, k3, k4⟩ := hL
  simp only [Int.ofNat_zero] at k1 k2 k3 k4
  subst k2; subst k4
  have hl' : (a.length : Int) = (b.length : Int) := by omega
  rw [callZ, evL_code ext_ref21_Prefix code_ref21_Prefix]
  simp only [c_ref21_Prefix, hl', k1, k3, evss_lo, Ev.runFunc, Ev.exec, Ev.evOpers, Ev.evOper, Ev.item_op, Ev.evOp, Ev.Opnd.ev, Ev.Env.get, Ev.Env.set, Ev.look, Ev.argVars, Ev.bin_neq, Ev.resVals, Ev.resVal, Ev.resOf, Ev.kill, Ev.leave, Ev.settle, Ev.keep, Ev.varsLo, Ev.marksLo, Ev.storeLo, Ev.lo_v, Ev.lo_fsl, Ev.frz_lo, List.length_map, ↓Ev.obind, ↓Ev.itL_itB, ↓reduceIte, List.length_cons, List.length_nil, List.take_nil, Nat.reduceAdd, Nat.reduceEqDiff, reduceCtorEq, decide_false, Bool.and_self, Bool.false_eq_true, and_self, ne_eq, not_true_eq_false, Nat.zero_add, eq_self]
theorem Limit_ev (a : Int) (h : 0 ≤ a ∧ a ≤ 255) : callZ (evL T) n_law21_Limit [(.v (.int .u8 a))] = some (.v (.int .i64 ((((a.toNat % 41 : Nat)) : Int)))) := by
  have hw : IntKind.i64.wrap a = a := w64_small (by omega) (by omega)
  have hr : a.tmod 41 = ((a.toNat % 41 : Nat) : Int) := by
    obtain ⟨n, rfl⟩ : ∃ n : Nat, a = n := ⟨a.toNat, by omega⟩
    rw [Int.tmod_eq_emod_of_nonneg (by omega)]; omega
  have h41 : ¬ (41 : Int) = 0 := by decide
  rw [callZ, evL_code ext_law21_Limit code_law21_Limit]
  simp only [c_law21_Limit, hw, hr, h41, Ev.runFunc, Ev.exec, Ev.evOpers, Ev.evOper, Ev.item_op, Ev.evOp, Ev.Opnd.ev, Ev.Env.get, Ev.Env.set, Ev.look, Ev.argVars, Ev.bin_rem, Ev.resVals, Ev.resVal, Ev.resOf, Ev.kill, Ev.leave, Ev.storeLo, Ev.lo_v, Ev.frz_lo, ↓Ev.obind, ↓reduceIte, List.length_cons, List.length_nil, List.take_nil, reduceCtorEq, and_self, Nat.zero_add, eq_self]
theorem ok_ev (c : Cfg) : callZ (evL T) n_law21_ok [(.agg [(.fsl ((c.lps).map lpC) false), (.fsl ((c.progs).map progC) false), (.v (.int .i64 (c.look))), (.v (.int .i64 (c.fin))), (.v (.int .i64 (c.cap)))])] = some (.v (.bool (okB c))) := by
  have hg := law19_Great_ev c
  have hr := ref19_Check_ev c
  rw [callZ, evL_code ext_law21_ok code_law21_ok]
  unfold okB
  cases h : greatB c with
  | true =>
    rw [h] at hg
    simp only [c_law21_ok, hg, lps_lo, progs_lo, Ev.runFunc, Ev.exec, Ev.evOpers, Ev.evOper, Ev.item_op, Ev.item_P, Ev.evOp, Ev.evs, Ev.Opnd.ev, Ev.Env.get, Ev.Env.set, Ev.Env.unset, Ev.look, Ev.argVars, Ev.cellsAt, Ev.loadC, Ev.AV.cells, Ev.plains, Ev.AV.plain, Ev.resVals, Ev.resVal, Ev.resOf, Ev.kill, Ev.leave, Ev.storeLo, Ev.lo_v, Ev.lo_agg, Ev.lo_fsl, Ev.los_nil, Ev.los_cons, Ev.frz_lo, ↓Ev.obind, ↓reduceIte, List.length_cons, List.length_nil, List.take_succ_cons, List.take_nil, Nat.reduceAdd, Nat.reduceEqDiff, Bool.and_self, Bool.not_true, Bool.false_eq_true, and_self, ne_eq, not_false_eq_true, List.cons_ne_nil, Nat.zero_add, Nat.le_refl, eq_self, Bool.false_and]
  | false =>
    rw [h] at hg
    simp only [c_law21_ok, hg, hr, lps_lo, progs_lo, Ev.runFunc, Ev.exec, Ev.evOpers, Ev.evOper, Ev.item_op, Ev.item_P, Ev.evOp, Ev.evs, Ev.Opnd.ev, Ev.Env.get, Ev.Env.set, Ev.look, Ev.argVars, Ev.cellsAt, Ev.loadC, Ev.AV.cells, Ev.plains, Ev.AV.plain, Ev.bin_eql, Ev.resVals, Ev.resVal, Ev.resOf, Ev.kill, Ev.leave, Ev.storeLo, Ev.lo_v, Ev.lo_agg, Ev.lo_fsl, Ev.los_nil, Ev.los_cons, Ev.frz_lo, ↓Ev.obind, ↓reduceIte, List.length_cons, List.length_nil, List.take_succ_cons, List.take_nil, Nat.reduceAdd, Nat.reduceEqDiff, Bool.and_self, Bool.true_and, Bool.not_false, and_self, ne_eq, not_false_eq_true, List.cons_ne_nil, Nat.zero_add, Nat.le_refl, eq_self]
structure Good (c : Cfg) : Prop where
  h12 : Small12 c
  ok : CfgOk c
  z : cfgZ c = 0
  v : Valid c
theorem good_of {c : Cfg} (h : okB c = true) : Good c := by
  simp only [okB, Bool.and_eq_true, Bool.not_eq_true', decide_eq_true_eq] at h
  obtain ⟨h1, h2⟩ := h
  obtain ⟨g1, g2, g3, g4⟩ := great_sizes c h1
  exact ⟨⟨g1, g3⟩, ⟨by omega, by omega, fun p hp => by have := g4 p hp; omega, fun l hl => by have := g3 l hl; omega⟩, by rw [← rcfgZ_eq]; exact h2, valid_of h2⟩
def runS (c : Cfg) (lim : Nat) : Sim := Sim.run c lim (start c)
theorem Good.run {c : Cfg} (h : Good c) (lim : Nat) (hl : lim ≤ 60) : ∃ L : List (Lp × Bool), L.map Prod.fst = (runS c lim).lps ∧ (∀ x ∈ L, x.2 = true → x.1.procs = []) ∧
      callZ (evL T) n_seqsim_Run [(.agg [(.fsl ((c.lps).map lpC) false), (.fsl ((c.progs).map progC) false), (.v (.int .i64 (c.look))), (.v (.int .i64 (c.fin))), (.v (.int .i64 (c.cap)))]), (.v (.int .i64 (lim)))] = some (.tup [(.fsl (((runS c lim).trace).map evtsC) false), (.fsl ((L).map lpF) false), (.v (.int .i64 (errZ c (runS c lim))))]) :=
  Run_ev rfl h.h12 h.ok h.z h.v lim hl
structure RunF (c : Cfg) (s : Sim) (h : List Evt) : Prop where
  inv : SInv c s h
  len : h.length ≤ 60
theorem RunF.n {c : Cfg} {s : Sim} {h : List Evt} (H : RunF c s h) : s.trace.length = c.lps.length ∧ c.lps.length ≤ 8 := ⟨H.inv.trl, H.inv.valid.lps.2⟩
theorem RunF.flat {c : Cfg} {s : Sim} {h : List Evt} (H : RunF c s h) : s.trace.flatten.length = h.length := H.inv.count
theorem RunF.rowLen {c : Cfg} {s : Sim} {h : List Evt} (H : RunF c s h) {i : Nat} {x : List Evt} (hx : s.trace[i]? = some x) : x.length ≤ 60 := by
  have h1 := flat_le s.trace (i + 1)
  rw [flat_take hx, List.length_append, H.flat] at h1
  have := H.len; omega
theorem RunF.key {c : Cfg} {s : Sim} {h : List Evt} (H : RunF c s h) {i : Nat} {x : List Evt} (hx : s.trace[i]? = some x) : ∀ e ∈ x, e.key.length ≤ 9223372036854775807 := by
  intro e he
  have := (H.inv.ev e (List.mem_append_left _ (H.inv.mem hx e he).1)).key
  have := H.len; omega
end Go.Proofs.Ythkjkdbjgpeigaa.K
namespace Go.Proofs.Ythkjkdbjgpeigaa.K
open Go.Ev
set_option maxRecDepth 100000
theorem law21_head_ev : callZ (evL T) n_law21_head [] = some (.v (.bool true)) := callZ_of_F 60 (by kernel_rfl)
end Go.Proofs.Ythkjkdbjgpeigaa.K
namespace Go.Ev
def Ctx.nil : Ctx := { n := 0, loc := fun _ => ⟨0, 0, 0, 0⟩, own := fun _ => False, far := fun _ => False }
theorem SR.nil (P : Program) (w : World) : SR P Ctx.nil [] w where
  len := rfl
  obj o ob h := by simp at h
  blk o h := absurd h (Nat.not_lt_zero _)
  inj o o' h := absurd h (Nat.not_lt_zero _)
  ownlt b h := h.elim
  farlt b h := h.elim
  sep b h := h.elim
section
variable (P : Program) {H : Type} (enc : TypeId × Value → H)
def IsData (t : TypeId) {τ : Type} (c : τ → List AV) (ok : τ → Prop) : Prop :=
  ∀ (w : World) (fuel : Nat) (cs : List Value) (d : DataW H) (ps : List MemPlace), DataW.trod enc P w 0 (fun _ => true) true fuel t cs = some (d, ps) → ∃ x : τ, ok x ∧ VRs Ctx.nil w (c x) cs
variable {P enc}
theorem VRs.one {Γ : Ctx} {w : World} {a : AV} {v : Value} (h : VR Γ w a v) : VRs Γ w [a] [v] := by
  simp only [VRs]; exact ⟨v, [], rfl, h, rfl⟩
theorem isData_int {t : TypeId} {k : IntKind} (hu : P.underlying t = some (.int k)) : IsData P enc t (fun n : Int => [.v (.int k n)]) (fun n => (Lit.int k n).wf = true) := by
  intro w fuel cs d ps h
  cases fuel with
  | zero => simp [DataW.trod] at h
  | succ fuel =>
    unfold DataW.trod at h
    rw [hu] at h
    split at h <;> rename_i heq <;> first | (cases heq; done) | (cases h; done) | skip
    cases heq
    split at h
    · rename_i hk
      obtain ⟨rfl, hwf⟩ := hk
      exact ⟨_, hwf, VRs.one (by simp only [VR])⟩
    · cases h
variable (P enc) in
def IsFields (off : Nat) (fs : List Field) {τ : Type} (c : τ → List AV) (ok : τ → Prop) (tot : Nat) : Prop :=
  ∀ (w : World) (fuel : Nat) (cs : List Value), (∀ (i : Nat) (f : Field), fs[i]? = some f → ∃ x, DataW.trod enc P w 0 (fun _ => true) true fuel f.type ((cs.drop f.offset).take (P.cellsOf f.type)) = some x) →
    ∃ x : τ, ok x ∧ VRs Ctx.nil w (c x) ((cs.drop off).take tot)
theorem isFields_nil (off : Nat) : IsFields P enc off [] (fun _ : Unit => []) (fun _ => True) 0 := fun w fuel cs _ => ⟨(), trivial, by simp [VRs]⟩
theorem isFields_cons {off : Nat} {f : Field} {fs : List Field} {α β : Type} {c1 : α → List AV} {ok1 : α → Prop} {c2 : β → List AV} {ok2 : β → Prop} {tot : Nat} {sz : Nat} (ho : f.offset = off) (hs : P.cellsOf f.type = sz)
    (h1 : IsData P enc f.type c1 ok1) (h2 : IsFields P enc (off + sz) fs c2 ok2 tot) : IsFields P enc off (f :: fs) (fun x : α × β => c1 x.1 ++ c2 x.2) (fun x => ok1 x.1 ∧ ok2 x.2) (sz + tot) := by
  intro w fuel cs h
  obtain ⟨⟨d, ps⟩, h3⟩ := h 0 f rfl
  obtain ⟨x, k1, k2⟩ := h1 w fuel _ d ps h3
  obtain ⟨y, k3, k4⟩ := h2 w fuel cs fun i g hg => h (i + 1) g (by simpa using hg)
  refine ⟨(x, y), ⟨k1, k3⟩, ?_⟩
  rw [List.take_add, List.drop_drop]
  rw [ho, hs] at k2
  exact k2.append k4
theorem isData_struct {t : TypeId} {fs : Array Field} {τ : Type} {c : τ → List AV} {ok : τ → Prop} (hu : P.underlying t = some (.struct fs)) (h : IsFields P enc 0 fs.toList c ok (P.cellsOf t)) : IsData P enc t c ok := by
  intro w fuel cs d ps ht
  obtain ⟨xs, n, rfl, _, hl, hx, hall⟩ := DataW.trod_struct hu ht
  obtain ⟨x, k1, k2⟩ := h w n cs fun i f hf => by
    have hf' : fs[i]? = some f := by simpa using hf
    have := hall i f hf'
    have hlt : i < xs.length := by rw [hx]; exact (Array.getElem?_eq_some_iff.1 hf').1
    exact ⟨xs[i], by rw [this, List.getElem?_eq_getElem hlt]⟩
  refine ⟨x, k1, ?_⟩
  rw [List.drop_zero, ← hl, List.take_length] at k2
  exact k2
theorem isData_struct' {t : TypeId} {fs : Array Field} {τ : Type} {c : τ → List AV} {ok : τ → Prop} {n : Nat} (hu : P.underlying t = some (.struct fs)) (h : IsFields P enc 0 fs.toList c ok n) (hn : P.cellsOf t = n) : IsData P enc t c ok := isData_struct hu (by rw [hn]; exact h)
theorem IsData.map {t : TypeId} {α β : Type} {c : α → List AV} {ok : α → Prop} {c' : β → List AV} {ok' : β → Prop} (g : α → β) (h : IsData P enc t c ok) (hc : ∀ x, c' (g x) = c x) (ho : ∀ x, ok x → ok' (g x)) : IsData P enc t c' ok' := by
  intro w fuel cs d ps ht
  obtain ⟨x, h1, h2⟩ := h w fuel cs d ps ht
  exact ⟨g x, ho x h1, by rw [hc]; exact h2⟩
theorem choose_list {τ : Type} {Q : Nat → τ → Prop} : ∀ (n : Nat), (∀ i, i < n → ∃ x, Q i x) → ∃ xs : List τ, xs.length = n ∧ ∀ (i : Nat) (x : τ), xs[i]? = some x → Q i x
  | 0, _ => ⟨[], rfl, by simp⟩
  | n + 1, h => by
    obtain ⟨xs, h1, h2⟩ := choose_list n fun i hi => h i (by omega)
    obtain ⟨x, hx⟩ := h n (by omega)
    refine ⟨xs ++ [x], by simp [h1], fun i y hy => ?_⟩
    rw [List.getElem?_append] at hy
    split at hy
    · exact h2 i y hy
    · rename_i hi
      have hlt : i - xs.length < 1 := by
        have := (List.getElem?_eq_some_iff.1 hy).1
        simpa using this
      have : i = n := by omega
      subst this
      rw [h1, Nat.sub_self] at hy
      simp at hy; subst hy; exact hx
theorem VRrows_of {Γ : Ctx} {w : World} {sz : Nat} {τ : Type} {c : τ → List AV} : ∀ (xs : List τ) (get : Nat → Option Value), (∀ (i : Nat) (x : τ), xs[i]? = some x → VRcells Γ w (c x) (fun j => get (j + i * sz))) → VRrows Γ w sz (xs.map c) get
  | [], _, _ => by simp [VRrows]
  | x :: xs, get, h => by
    simp only [List.map_cons, VRrows]
    refine ⟨by simpa using h 0 x (by simp), VRrows_of xs _ fun i y hy => ?_⟩
    refine (h (i + 1) y (by simpa using hy)).congr fun j => ?_
    congr 1
    rw [Nat.add_mul]; omega
theorem isData_slice {t e : TypeId} {sz : Nat} {τ : Type} {c : τ → List AV} {ok : τ → Prop} (hu : P.underlying t = some (.slice e)) (hs : P.cellsOf e = sz) (h0 : 0 < sz) (hc : ∀ x, (c x).length = sz) (h : IsData P enc e c ok) :
    IsData P enc t (fun xs : List τ => [.fsl (xs.map c) false]) (fun xs => (∀ x ∈ xs, ok x) ∧ xs.length ≤ maxLen) := by
  intro w fuel cs d ps ht
  rcases DataW.trod_slice hu ht with ⟨rfl, _⟩ | ⟨a, len, cap, elems, rest, n, rfl, rfl, _, _, hle, hcap, hel, hall, _⟩
  · refine ⟨[], by simp, VRs.one ?_⟩
    simp only [VR]
    exact ⟨none, 0, rfl, by simp, fun h => (by cases h), .inl rfl⟩
  · have hex : ∀ i, i < len → ∃ x : τ, ok x ∧ ∃ vs, w.cells? 0 (a.add (i * sz)) sz = some vs ∧ VRs Ctx.nil w (c x) vs := by
      intro i hi
      have hb := hall i hi
      rw [List.getElem?_eq_getElem (by omega), Option.bind_eq_some_iff] at hb
      obtain ⟨vs, k1, k2⟩ := hb
      obtain ⟨x, k3, k4⟩ := h w n vs _ _ k2
      rw [hs] at k1
      exact ⟨x, k3, vs, k1, k4⟩
    obtain ⟨xs, h4, h5⟩ := choose_list (Q := fun i x => ok x ∧ ∃ vs, w.cells? 0 (a.add (i * sz)) sz = some vs ∧ VRs Ctx.nil w (c x) vs) len hex
    refine ⟨xs, ⟨fun x hx => ?_, by omega⟩, VRs.one ?_⟩
    · obtain ⟨i, hi, rfl⟩ := List.mem_iff_getElem.1 hx
      exact (h5 i _ (by simp [hi])).1
    · simp only [VR]
      refine ⟨some a, cap, by simp [h4], by simp [h4]; omega, fun h => (by cases h), ?_⟩
      by_cases hx0 : xs = []
      · left; simp [hx0]
      · right
        have hlen0 : 0 < xs.length := List.length_pos_iff.2 hx0
        have hcell : ∀ (i : Nat) (x : τ), xs[i]? = some x → ∀ j, j < sz → ∃ v, w.cell? ((a.add (i * sz)).add j) = some v := by
          intro i x hx j hj
          obtain ⟨_, vs, k1, k2⟩ := h5 i x hx
          obtain ⟨_, k3, k4⟩ := World.cells?_some k1
          exact ⟨vs[j]'(by omega), by rw [k4 j hj, List.getElem?_eq_getElem (by omega)]⟩
        obtain ⟨v0, hv0⟩ := hcell 0 xs[0] (by simp [hlen0]) 0 h0
        obtain ⟨b, off, spot⟩ := a
        have hspot : spot = none := by simpa [Addr.add] using World.cell?_spot hv0
        subst hspot
        have hblt : b < w.heap.size := by
          rw [Addr.add_lit, Addr.add_lit] at hv0
          unfold World.cell? at hv0
          cases hh : w.heap[b]? with
          | none => rw [hh] at hv0; simp at hv0
          | some o => exact (Array.getElem?_eq_some_iff.1 hh).1
        refine ⟨b, off, sz, rfl, ⟨hblt, id, id⟩, h0, ?_, ?_⟩
        · intro e he
          obtain ⟨x, _, rfl⟩ := List.mem_map.1 he
          exact hc x
        · refine VRrows_of xs _ fun i x hx => ?_
          obtain ⟨_, vs, k1, k2⟩ := h5 i x hx
          obtain ⟨_, k3, k4⟩ := World.cells?_some k1
          refine VRcells.of_list k2 fun j v hj => ?_
          have hjl := (List.getElem?_eq_some_iff.1 hj).1
          have := k4 j (by omega)
          rw [hj, Addr.add_lit, Addr.add_lit] at this
          rw [← this]
          congr 2
          omega
end
end Go.Ev
namespace Go.Ev
open Go.RowKit (Below)
open Go.ChangeShapes Go.WideShapes Go.ChangeAt Go.RowKit
variable {H : Type} {enc : TypeId × Value → H} {P : Program}
theorem Ext.below {w w' : World} {Γ' : Ctx} (x : Ext Ctx.nil Γ' w w') : Below w.heap.size w w' := ⟨x.os, x.tape, x.output, x.size, fun k hk => x.same k hk id⟩
theorem trodAll_stays (hl : laidOutB P = true) {w w' : World} (hb : Below w.heap.size w w') {sp : Nat → Bool} : ∀ {ts : List TypeId} {vs : List Value} {ds : List (DataW H)} {ps : List MemPlace},
    (∀ t ∈ ts, P.readableRec t = true ∧ t < P.types.size) → DataW.TrodAll enc P w 0 (fun _ => true) true ts vs ds ps → (∀ p ∈ ps, p.block < w.heap.size) → (∀ p ∈ ps, sp p.block = true) → DataW.TrodAll enc P w' 0 sp true ts vs ds ps
  | [], [], [], ps, _, h, _, _ => h
  | t :: ts, v :: vs, d :: ds, ps, ht, ⟨p, q, h1, h2, e⟩, hlt, hs => by
    subst e
    obtain ⟨r1, r2⟩ := ht t (by simp)
    exact ⟨p, q, WideElems.Trod_stays hl r1 r2 h1 (fun x hx => hb.same (hlt x (List.mem_append_left _ hx))) (fun x hx => hs x (List.mem_append_left _ hx)),
      trodAll_stays hl hb (fun u hu => ht u (by simp [hu])) h2 (fun x hx => hlt x (List.mem_append_right _ hx)) (fun x hx => hs x (List.mem_append_right _ hx)), rfl⟩
  | [], _ :: _, _, _, _, h, _, _ => h.elim
  | [], [], _ :: _, _, _, h, _, _ => h.elim
  | _ :: _, [], _, _, _, h, _, _ => h.elim
  | _ :: _, _ :: _, [], _, _, h, _, _ => h.elim
theorem frz_bool {σ : Store} {d : Nat} {a : AV} {b : Bool} : frz σ (d + 1) a = some (.v (.bool b)) → a = .v (.bool b) := by
  intro h
  simp only [frz] at h
  split at h
  · cases h; rfl
  · cases a with
    | v x => cases h; rfl
    | sl o g off len c =>
      simp only at h
      split at h
      · split at h
        · rw [Option.bind_eq_some_iff] at h; obtain ⟨_, _, h⟩ := h; cases h
        · cases h
      · cases h
    | ptr o g i off =>
      simp only at h
      split at h
      · split at h
        · rw [Option.bind_eq_some_iff] at h; obtain ⟨_, _, h⟩ := h
          rw [Option.bind_eq_some_iff] at h; obtain ⟨_, _, h⟩ := h; cases h
        · cases h
      · cases h
    | agg cs => simp only [Option.bind_eq_some_iff] at h; obtain ⟨_, _, h⟩ := h; cases h
    | tup cs => simp only [Option.bind_eq_some_iff] at h; obtain ⟨_, _, h⟩ := h; cases h
    | fsl es c => simp only [Option.bind_eq_some_iff] at h; obtain ⟨_, _, h⟩ := h; cases h
    | fptr cs => simp only [Option.bind_eq_some_iff] at h; obtain ⟨_, _, h⟩ := h; cases h
    | fn f a b => simp only [Option.bind_eq_some_iff] at h; obtain ⟨_, _, _, _, h⟩ := h; cases h
    | yld o => cases h
    | mp o => cases h
theorem calls_bool {T : Tab} (hT : TabOk P T) {f : Nat} {cf : CFunc} (hc : T.code f = some cf) {as_ : List AV} {b : Bool} (h : callZ (evL T) f as_ = some (.v (.bool b))) {W : World} {args : Array Value} (hv : VRs Ctx.nil W as_ args.toList) :
    Calls P f args W fun e W' => e = .returned (.bool b) ∧ Below W.heap.size W W' := by
  unfold callZ at h
  rw [Option.bind_eq_some_iff] at h
  obtain ⟨⟨r, σ⟩, h1, h2⟩ := h
  obtain rfl := frz_bool (d := 5) h2
  have hn := evL_ok hT f as_ [] _ σ h1 Ctx.nil W args.toList (SR.nil P W) hv
  rw [Array.toArray_toList, hT.enter hc] at hn
  refine (callsIn_wide.1 hn).mono fun e W' he => ?_
  cases e with
  | returned v =>
    obtain ⟨Γ', k1, _, k3⟩ := he
    simp only [VR] at k1
    exact ⟨by rw [k1], k3.below⟩
  | panicked _ => exact he.elim
  | outgrown => exact he.elim
theorem post_of_true {f : Func} {s : ChangeSpec} {apart fresh handsOn again : Bool} {W W' : World} {args : Array Value} {ds gs : List (DataW H)} {before : List MemPlace} {tb : TypeId}
    (hvars : s.vars = []) (hspec : s.fn H (ds ++ gs) = { results := [.lit (.bool true)], args := ds }) (hr : f.resultTypes = #[tb]) (htb : P.underlying tb = some .bool) (hl : laidOutB P = true)
    (hts : ∀ t ∈ f.params.toList, P.readableRec t = true ∧ t < P.types.size)
    (hW : DataW.Whole enc P f.params.toList s.vars apart W args.toList ds gs before) (hb : Below W.heap.size W W') : s.post enc P f apart fresh handsOn again W args (.bool true) W' := by
  have hlt := hW.lt
  have hW' := hW
  obtain ⟨p, q, hA, hV, rfl, hz, hnd⟩ := hW
  rw [hvars] at hV
  obtain ⟨rfl, rfl⟩ := trodVars_none hV
  have hargs : ∀ sp : Nat → Bool, (∀ x ∈ p, sp x.block = true) → DataW.TrodAll enc P W' 0 sp true f.params.toList args.toList ds p := fun sp hs => trodAll_stays hl hb hts hA (fun x hx => hlt x (by simp [hx])) hs
  have hres : ∀ (bb : Nat) (sp : Nat → Bool) (hd : Bool), DataW.TrodAll enc P W' bb sp hd f.resultTypes.toList ((Value.bool true).resultList f.resultTypes.size) [.lit (.bool true)] [] := fun bb sp hd => by
    rw [hr]
    exact trodAll_mk1 (shut_bool htb true)
  refine ⟨ds, [], p ++ [], [], p, [], hW', ?_, ?_, ?_, hb.frame _, fun _ => ⟨?_, ?_⟩⟩
  · rw [hspec]; exact hres _ _ _
  · rw [hspec]; exact hargs _ fun x hx => by simpa using hlt x (by simp [hx])
  · rw [hspec, hvars]; rfl
  · exact ok_one hr rfl (okWide_bool_mk htb true)
  · refine ⟨[.lit (.bool true)] ++ ds, [], ([] ++ p) ++ [], ⟨[] ++ p, [], trodAll_append (hargs _ (fun _ _ => rfl)) (hres _ _ _), by rw [hvars]; rfl, rfl, ?_, ?_⟩, ?_⟩
    · intro b off hp
      have hp' : MemPlace.cell b off ∈ p := by simpa using hp
      have hblt : b < W.heap.size := hlt (.cell b off) (by simp [hp'])
      rw [hb.frozen (p := ⟨b, off, none⟩) hblt]
      exact hz b off (by simp [hp'])
    · intro ha
      simpa using hnd ha
    · intro x hx _
      simpa using hx
end Go.Ev
namespace Go.Ev
open Go.RowKit (Below)
open Go.ChangeShapes Go.WideShapes Go.ChangeAt Go.RowKit
section
variable {H : Type} (P : Program) (enc : TypeId × Value → H)
def IsArgs (ts : List TypeId) {τ : Type} (c : τ → List AV) (ok : τ → Prop) : Prop :=
  ∀ (W : World) (args : List Value) (ds : List (DataW H)) (p : List MemPlace), DataW.TrodAll enc P W 0 (fun _ => true) true ts args ds p →
    (∀ (j : Nat) t v, ts[j]? = some t → args[j]? = some v → ∃ base, Value.okWide P W .any base t v) → ∃ x : τ, ok x ∧ VRs Ctx.nil W (c x) args ∧ ds.length = ts.length
variable {P enc}
def plainU : TypeDesc → Bool
  | .struct _ => false
  | .array _ _ => false
  | _ => true
theorem okWide_plain {w : World} {r : Reach} {base : Nat} {t : TypeId} {v : Value} {u : TypeDesc} (hu : P.underlying t = some u) (hp : plainU u = true) (h : Value.okWide P w r base t v) : ∀ cs, v ≠ .agg cs := by
  rintro cs rfl
  unfold Value.okWide at h
  rw [hu] at h
  cases u <;> simp only [plainU, Bool.false_eq_true] at hp <;> simp only [Cell.okWide, Cell.ok, hu] at h
theorem isArgs_nil : IsArgs P enc [] (fun _ : Unit => []) (fun _ => True) := by
  intro W args ds p h _
  obtain ⟨rfl, rfl, rfl⟩ := trodAll_nil h
  exact ⟨(), trivial, by simp [VRs], rfl⟩
theorem isArgs_cell {t : TypeId} {ts : List TypeId} {u : TypeDesc} {α β : Type} {a : α → AV} {ok1 : α → Prop} {c2 : β → List AV} {ok2 : β → Prop} (hu : P.underlying t = some u) (hp : plainU u = true)
    (h1 : IsData P enc t (fun x => [a x]) ok1) (h2 : IsArgs P enc ts c2 ok2) : IsArgs P enc (t :: ts) (fun x : α × β => a x.1 :: c2 x.2) (fun x => ok1 x.1 ∧ ok2 x.2) := by
  intro W args ds p h hval
  obtain ⟨v, vs, d, ds', p, q, rfl, rfl, rfl, ht, hr⟩ := trodAll_cons h
  obtain ⟨y, k1, k2, k3⟩ := h2 W vs ds' q hr fun j t v e1 e2 => hval (j + 1) t v (by simpa using e1) (by simpa using e2)
  obtain ⟨fuel, hf⟩ := ht
  obtain ⟨x, m1, m2⟩ := h1 W fuel _ d p hf
  obtain ⟨base, hv⟩ := hval 0 t v rfl rfl
  have hna := okWide_plain hu hp hv
  have hc : v.cells.toList = [v] := by
    cases v with
    | agg cs => exact absurd rfl (hna cs)
    | _ => rfl
  rw [hc] at m2
  simp only [VRs] at m2
  obtain ⟨v', r, e, m3, rfl⟩ := m2
  cases e
  refine ⟨(x, y), ⟨m1, k1⟩, ?_, by simp [k3]⟩
  simp only [VRs]
  exact ⟨v, vs, rfl, m3, k2⟩
theorem isArgs_struct {t : TypeId} {ts : List TypeId} {fs : Array Field} {α β : Type} {c1 : α → List AV} {ok1 : α → Prop} {c2 : β → List AV} {ok2 : β → Prop} (hu : P.underlying t = some (.struct fs))
    (h1 : IsData P enc t c1 ok1) (h2 : IsArgs P enc ts c2 ok2) : IsArgs P enc (t :: ts) (fun x : α × β => .agg (c1 x.1) :: c2 x.2) (fun x => ok1 x.1 ∧ ok2 x.2) := by
  intro W args ds p h hval
  obtain ⟨v, vs, d, ds', p, q, rfl, rfl, rfl, ht, hr⟩ := trodAll_cons h
  obtain ⟨y, k1, k2, k3⟩ := h2 W vs ds' q hr fun j t v e1 e2 => hval (j + 1) t v (by simpa using e1) (by simpa using e2)
  obtain ⟨fuel, hf⟩ := ht
  obtain ⟨x, m1, m2⟩ := h1 W fuel _ d p hf
  obtain ⟨base, hv⟩ := hval 0 t v rfl rfl
  obtain ⟨cs, rfl, _⟩ := okWide_struct hu hv
  refine ⟨(x, y), ⟨m1, k1⟩, ?_, by simp [k3]⟩
  simp only [VRs]
  refine ⟨_, vs, rfl, ?_, k2⟩
  simp only [VR]
  exact ⟨cs.toList, by simp, by simpa [Value.cells] using m2⟩
end
theorem contract_of {H : Type} {enc : TypeId × Value → H} {P : Program} {T : Tab} (hT : TabOk P T) {f : Nat} {fn : Func} {cf : CFunc} (hc : T.code f = some cf) {s : ChangeSpec} {apart : Bool} {ts : List TypeId} {tb : TypeId} {τ : Type} {c : τ → List AV} {ok : τ → Prop}
    (hpar : fn.params.toList = ts) (hargs : IsArgs P enc ts c ok) (hlaw : ∀ x, ok x → callZ (evL T) f (c x) = some (.v (.bool true)))
    (hvars : s.vars = []) (hspec : ∀ ds : List (DataW H), ds.length = ts.length → s.fn H ds = { results := [.lit (.bool true)], args := ds })
    (hr : fn.resultTypes = #[tb]) (htb : P.underlying tb = some .bool) (hl : laidOutB P = true) (hts : ∀ t ∈ ts, P.readableRec t = true ∧ t < P.types.size)
    (W : World) (base : Nat) (args : Array Value) (ds gs : List (DataW H)) (before : List MemPlace) (hval : ∀ (j : Nat) t v, fn.params[j]? = some t → args[j]? = some v → Value.okWide P W .any base t v)
    (hW : DataW.Whole enc P fn.params.toList s.vars apart W args.toList ds gs before) : Calls P f args W fun e W' => ∃ v, e = .returned v ∧ s.post enc P fn apart true false false W args v W' := by
  have hW' := hW
  obtain ⟨p, q, hA, hV, rfl, hz, hnd⟩ := hW
  rw [hvars] at hV
  obtain ⟨rfl, rfl⟩ := trodVars_none hV
  obtain ⟨x, h1, h2, h3⟩ := hargs W args.toList ds p (hpar ▸ hA) fun j t v e1 e2 => ⟨base, hval j t v (by rw [← hpar] at e1; simpa using e1) (by simpa using e2)⟩
  refine (calls_bool hT hc (hlaw x h1) h2).mono fun e W' ⟨he, hb⟩ => ⟨_, he, ?_⟩
  exact post_of_true hvars (by rw [List.append_nil]; exact hspec ds h3) hr htb hl (by rw [hpar]; exact hts) hW' hb
end Go.Ev
namespace Go.Proofs.Ythkjkdbjgpeigaa.K
open Go.Ev
open Go.ChangeShapes Go.WideShapes Go.ChangeAt Go.RowKit
set_option linter.unusedSimpArgs false
set_option linter.unusedVariables false
section
variable {H : Type} {enc : TypeId × Value → H}
theorem wf_u8 {n : Int} (h : (Lit.int .u8 n).wf = true) : 0 ≤ n ∧ n ≤ 255 := by
  simp [Lit.wf] at h
  have h1 : IntKind.u8.min = 0 := rfl
  have h2 : IntKind.u8.max = 255 := rfl
  omega
theorem wf_i64 {n : Int} (h : (Lit.int .i64 n).wf = true) : -9223372036854775808 ≤ n ∧ n ≤ 9223372036854775807 := by
  simp [Lit.wf] at h
  have h1 : IntKind.i64.min = -9223372036854775808 := rfl
  have h2 : IntKind.i64.max = 9223372036854775807 := rfl
  omega
theorem data_int : IsData Try.prog enc 3 (fun n : Int => [(.v (.int .i64 (n)))]) (fun n => -9223372036854775808 ≤ n ∧ n ≤ 9223372036854775807) := (isData_int Try.underlying3).map id (fun _ => rfl) (fun _ h => wf_i64 h)
theorem data_u8 : IsData Try.prog enc 5 (fun n : Int => [(.v (.int .u8 n))]) (fun n => 0 ≤ n ∧ n ≤ 255) := (isData_int Try.underlying5).map id (fun _ => rfl) (fun _ h => wf_u8 h)
theorem data_op : IsData Try.prog enc 75 OpI.r (fun _ => True) := by
  have h := isData_struct' (P := Try.prog) (enc := enc) (t := 75) Try.underlying75 (isFields_cons (sz := 1) rfl (by kernel_rfl) data_int (isFields_cons (sz := 1) rfl (by kernel_rfl) data_int (isFields_cons (sz := 1) rfl (by kernel_rfl) data_int (isFields_cons (sz := 1) rfl (by kernel_rfl) data_int (isFields_nil _))))) (by kernel_rfl)
  exact h.map (fun x => (⟨x.1, x.2.1, x.2.2.1, x.2.2.2.1⟩ : OpI)) (fun _ => rfl) (fun _ _ => trivial)
theorem data_prog : IsData Try.prog enc 76 (fun l : List OpI => [(.fsl ((l).map OpI.r) false)]) (fun l => (∀ x ∈ l, True) ∧ l.length ≤ maxLen) := isData_slice (sz := 4) Try.underlying76 (by kernel_rfl) (by decide) (fun _ => rfl) data_op
theorem data_progs : IsData Try.prog enc 23 (fun l : List (List OpI) => [(.fsl ((l).map progC) false)]) (fun l => (∀ x ∈ l, (∀ y ∈ x, True) ∧ x.length ≤ maxLen) ∧ l.length ≤ maxLen) := isData_slice (sz := 1) Try.underlying23 (by kernel_rfl) (by decide) (fun _ => rfl) data_prog
theorem data_start : IsData Try.prog enc 67 Start.r (fun _ => True) := by
  have h := isData_struct' (P := Try.prog) (enc := enc) (t := 67) Try.underlying67 (isFields_cons (sz := 1) rfl (by kernel_rfl) data_int (isFields_cons (sz := 1) rfl (by kernel_rfl) data_int (isFields_nil _))) (by kernel_rfl)
  exact h.map (fun x => (⟨x.1, x.2.1⟩ : Start)) (fun _ => rfl) (fun _ _ => trivial)
theorem data_starts : IsData Try.prog enc 65 (fun l : List Start => [(.fsl ((l).map Start.r) false)]) (fun l => (∀ x ∈ l, True) ∧ l.length ≤ maxLen) := isData_slice (sz := 2) Try.underlying65 (by kernel_rfl) (by decide) (fun _ => rfl) data_start
theorem data_lps : IsData Try.prog enc 22 (fun l : List (List Start) => [(.fsl ((l).map lpC) false)]) (fun l => (∀ x ∈ l, (∀ y ∈ x, True) ∧ x.length ≤ maxLen) ∧ l.length ≤ maxLen) := isData_slice (sz := 1) Try.underlying22 (by kernel_rfl) (by decide) (fun _ => rfl) data_starts
theorem data_cfg : IsData Try.prog enc 25 (fun c : Cfg => [(.fsl ((c.lps).map lpC) false), (.fsl ((c.progs).map progC) false), (.v (.int .i64 (c.look))), (.v (.int .i64 (c.fin))), (.v (.int .i64 (c.cap)))]) (fun c => -9223372036854775808 ≤ c.look ∧ c.look ≤ 9223372036854775807) := by
  have h := isData_struct' (P := Try.prog) (enc := enc) (t := 25) Try.underlying25 (isFields_cons (sz := 1) rfl (by kernel_rfl) data_lps (isFields_cons (sz := 1) rfl (by kernel_rfl) data_progs (isFields_cons (sz := 1) rfl (by kernel_rfl) data_int (isFields_cons (sz := 1) rfl (by kernel_rfl) data_int (isFields_cons (sz := 1) rfl (by kernel_rfl) data_int (isFields_nil _)))))) (by kernel_rfl)
  exact h.map (fun x => (⟨x.1, x.2.1, x.2.2.1, x.2.2.2.1, x.2.2.2.2.1⟩ : Cfg)) (fun _ => rfl) (fun _ h => h.2.2.1)
end
theorem own : ownKnob Try.prog.godebug = none := by kernel_rfl
theorem laid : laidOutB Try.prog = true := by kernel_rfl
end Go.Proofs.Ythkjkdbjgpeigaa.K
namespace Go.Proofs.Ythkjkdbjgpeigaa.K
open Go.Ev
set_option linter.unusedSimpArgs false
set_option linter.unusedVariables false
set_option maxRecDepth 10000
section
variable (c : Cfg)
theorem errZ_ten {s : Sim} : errZ c s = 10 ↔ s.ready c = true := by
  unfold errZ
  by_cases h : s.ready c = true
  · simp [h]
  · rw [if_neg h]
    by_cases h2 : s.over = true
    · simp [h, h2]
    · simp [h, h2]
theorem law_SeqsimPrefix (a b : Int) (ha : 0 ≤ a ∧ a ≤ 255) (hb : 0 ≤ b ∧ b ≤ 255) : callZ (evL T) n_law21_SeqsimPrefix [(.agg [(.fsl ((c.lps).map lpC) false), (.fsl ((c.progs).map progC) false), (.v (.int .i64 (c.look))), (.v (.int .i64 (c.fin))), (.v (.int .i64 (c.cap)))]), (.v (.int .u8 a)), (.v (.int .u8 b))] = some (.v (.bool (true))) := by
  have hok := ok_ev c
  rw [callZ, evL_code ext_law21_SeqsimPrefix code_law21_SeqsimPrefix]
  cases ho : okB c with
  | false =>
    rw [ho] at hok
    simp only [c_law21_SeqsimPrefix, law21_head_ev, hok, lps_lo, progs_lo, Ev.runFunc, Ev.exec, Ev.evOpers, Ev.evOper, Ev.item_op, Ev.item_P, Ev.evOp, Ev.evs, Ev.Opnd.ev, Ev.Env.get, Ev.Env.set, Ev.look, Ev.argVars, Ev.cellsAt, Ev.loadC, Ev.AV.cells, Ev.plains, Ev.AV.plain, Ev.resVals, Ev.resVal, Ev.resOf, Ev.kill, Ev.leave, Ev.storeLo, Ev.lo_v, Ev.lo_agg, Ev.lo_fsl, Ev.los_nil, Ev.los_cons, Ev.frz_lo, ↓Ev.obind, ↓reduceIte, List.length_cons, List.length_nil, List.take_succ_cons, List.take_nil, Nat.reduceAdd, Nat.reduceEqDiff, Bool.and_self, Bool.not_false, and_self, ne_eq, not_false_eq_true, List.cons_ne_nil, Nat.zero_add, Nat.le_refl, eq_self]
  | true =>
    rw [ho] at hok
    have G := good_of ho
    have hL := Limit_ev a ha
    obtain ⟨n, hn⟩ : ∃ n : Nat, n = a.toNat % 41 := ⟨_, rfl⟩
    rw [← hn] at hL
    obtain ⟨m, hm⟩ : ∃ m : Nat, m = b.toNat % (n + 1) := ⟨_, rfl⟩
    have hmn : m ≤ n := by rw [hm]; have := Nat.mod_lt b.toNat (y := n + 1) (by omega); omega
    have hwb : IntKind.i64.wrap b = b := w64_small (by omega) (by omega)
    have hwn : IntKind.i64.wrap ((n : Int) + 1) = ((n + 1 : Nat) : Int) := by rw [w64_small (by omega) (by omega)]; simp
    have hne : ¬ (((n + 1 : Nat) : Int)) = 0 := by omega
    have hr : b.tmod ((n + 1 : Nat) : Int) = (m : Int) := by
      obtain ⟨k, rfl⟩ : ∃ k : Nat, b = k := ⟨b.toNat, by omega⟩
      rw [hm, Int.tmod_eq_emod_of_nonneg (by omega)]; simp
    obtain ⟨h, h', H1, H2, H3, H4⟩ := ran2 G.v m (n - m) (by omega)
    rw [show m + (n - m) = n by omega] at H2 H4
    obtain ⟨L1, _, _, r1⟩ := G.run m (by omega)
    obtain ⟨L2, _, _, r2⟩ := G.run n (by omega)
    have l8 := G.v.lps.2
    change SInv c (runS c m) h at H1
    change SInv c (runS c n) (h ++ h') at H2
    have f1 := H1.count
    have f2 := H2.count
    have hle2 : (h ++ h').length ≤ 60 := by
      obtain ⟨h2, g1, g2, _⟩ := ran G.v n (by omega)
      have := g1.count
      change (runS c n).trace.flatten.length = _ at this
      rw [f2] at this; omega
    have R2 : RunF c (runS c n) (h ++ h') := ⟨H2, hle2⟩
    have q1 := Commits_ev (runS c m).trace false (by rw [H1.trl]; omega) (by rw [f1]; rw [List.length_append] at hle2; omega)
    have q2 := Commits_ev (runS c n).trace false (by rw [H2.trl]; omega) (by rw [f2]; omega)
    have q3 := Prefix_ev (runS c m).trace (runS c n).trace false false (by rw [H1.trl, H2.trl]) (by rw [H1.trl]; omega) (by
      intro i x y hx hy
      have hi := (List.getElem?_eq_some_iff.1 hx).1
      rw [H1.trl] at hi
      rw [H1.tr i hi] at hx; cases hx
      rw [H2.tr i hi] at hy; cases hy
      exact ⟨ownOf h' i, by unfold ownOf; rw [List.filter_append]⟩) (fun x hx => by
        obtain ⟨i, hi⟩ := List.mem_iff_getElem?.1 hx
        have := R2.rowLen hi; omega) (fun x hx => by
        obtain ⟨i, hi⟩ := List.mem_iff_getElem?.1 hx
        exact R2.key hi)
    rw [f1] at q1
    rw [f2] at q2
    obtain ⟨N, hN⟩ : ∃ N, N = (h ++ h').length := ⟨_, rfl⟩
    rw [← hN] at q2 H3 H4 hle2
    have e1 : (if (N : Int) < (m : Int) then (N : Int) else (m : Int)) = (h.length : Int) := by
      split <;> omega
    have e10 := errZ_ten c (s := runS c n)
    by_cases hr10 : (runS c n).ready c = true
    · have e2 := H4 hr10
      have e3 := e10.2 hr10
      rw [e2] at q2 e1
      rw [e3] at r2
      simp only [c_law21_SeqsimPrefix, law21_head_ev, hok, hL, hwb, hwn, hne, hr, r1, r2, q1, q2, q3, e1, lps_lo, progs_lo, evss_lo, Ev.runFunc, Ev.exec, Ev.evOpers, Ev.evOper, Ev.item_op, Ev.item_P, Ev.evOp, Ev.evs, Ev.Opnd.ev, Ev.Env.get, Ev.Env.set, Ev.look, Ev.argVars, Ev.cellsAt, Ev.loadC, Ev.AV.cells, Ev.plains, Ev.AV.plain, Ev.bin_add, Ev.bin_rem, Ev.bin_eql, Ev.bin_neq, Ev.resVals, Ev.resVal, Ev.resOf, Ev.kill, Ev.leave, Ev.storeLo, Ev.lo_v, Ev.lo_agg, Ev.lo_fsl, Ev.los_nil, Ev.los_cons, Ev.frz_lo, ↓Ev.obind, ↓reduceIte, List.length_cons, List.length_nil, List.getElem?_cons_zero, List.getElem?_cons_succ, List.take_succ_cons, List.take_nil, Nat.reduceAdd, Nat.reduceEqDiff, reduceCtorEq, decide_true, decide_false, Bool.and_self, Bool.not_true, Bool.false_eq_true, and_self, ne_eq, not_false_eq_true, not_true_eq_false, List.cons_ne_nil, Nat.zero_add, Nat.le_refl, eq_self]
    · have e3 : ¬ errZ c (runS c n) = 10 := fun h => hr10 (e10.1 h)
      simp only [c_law21_SeqsimPrefix, law21_head_ev, hok, hL, hwb, hwn, hne, hr, r1, r2, q1, q2, q3, e1, e3, lps_lo, progs_lo, evss_lo, Ev.runFunc, Ev.exec, Ev.evOpers, Ev.evOper, Ev.item_op, Ev.item_P, Ev.evOp, Ev.evs, Ev.Opnd.ev, Ev.Env.get, Ev.Env.set, Ev.Env.unset, Ev.look, Ev.argVars, Ev.cellsAt, Ev.loadC, Ev.AV.cells, Ev.plains, Ev.AV.plain, Ev.bin_add, Ev.bin_rem, Ev.bin_eql, Ev.bin_neq, Ev.resVals, Ev.resVal, Ev.resOf, Ev.kill, Ev.leave, Ev.storeLo, Ev.lo_v, Ev.lo_agg, Ev.lo_fsl, Ev.los_nil, Ev.los_cons, Ev.frz_lo, ↓Ev.obind, ↓reduceIte, List.length_cons, List.length_nil, List.getElem?_cons_zero, List.getElem?_cons_succ, List.take_succ_cons, List.take_nil, Nat.reduceAdd, Nat.reduceEqDiff, reduceCtorEq, decide_true, Bool.and_self, Bool.not_true, Bool.false_eq_true, Bool.true_eq_false, and_self, ne_eq, not_false_eq_true, List.cons_ne_nil, Nat.zero_add, Nat.le_refl, eq_self]
end
end Go.Proofs.Ythkjkdbjgpeigaa.K
