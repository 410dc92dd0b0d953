/- For every input the statement of this claim returns true: texts of its proof, joined (part 11). -/
import Derived.ChangeShapes
import Derived.ChangeOld
import Derived.ChangeArms
import Derived.DataReads
import Derived.Carry
import Derived.ChangeSame
import Derived.OpenShut
import Derived.Handed
import Derived.RowKit3
import Derived.ChangeAt
import Derived.Test.YthkjkdbjgpeigaaRows
import Derived.WalkKit
import Derived.ProofKit
import Derived.Test.YthkjkdbjgpeigaaEB3
import Derived.Test.YthkjkdbjgpeigaaGB05
import Derived.Test.YthkjkdbjgpeigaaGB07
import Derived.Test.YthkjkdbjgpeigaaGB09
set_option linter.unusedSectionVars false
set_option linter.unusedSimpArgs false
set_option linter.unusedVariables false
namespace Go.Proofs.Ythkjkdbjgpeigaa.K
open Go.Ev
set_option maxRecDepth 10000
def qcj (n l m : Int) : Bool := decide (n ≥ l) && decide (n ≤ m)
theorem qew (n l m : Int) : qbk (evL T) qbo [(.v (.int .i64 (n))), (.v (.int .i64 (l))), (.v (.int .i64 (m)))] = some (.v (.bool (qcj n l m))) := by
  rw [qbk, qu qta qs5]
  by_cases h1 : n ≥ l <;> simp only [qcj, qjx, h1, Ev.qm, Ev.exec, Ev.qb, Ev.qe, Ev.qc, Ev.qaf, Ev.Opnd.ev, Ev.Env.get, Ev.Env.set, Ev.Env.unset, Ev.look, Ev.qn, Ev.qjl, Ev.qbz, Ev.ql, Ev.qw, Ev.qae, Ev.kill, Ev.qad, Ev.qd, Ev.qa4, Ev.qal, ↓Ev.qq, ↓reduceIte, List.length_cons, List.length_nil, List.take_nil, Nat.reduceAdd, Nat.reduceEqDiff, reduceCtorEq, decide_true, decide_false, Bool.true_and, Bool.false_eq_true, and_self, Nat.zero_add, eq_self, Bool.false_and]
def operP (x : OpI) (n ps : Int) : Bool :=
  if x.code = 1 then qcj x.a 1 1099511627776 && (decide (x.b = 0) && decide (x.c = 0))
  else if x.code = 2 then decide (x.a ≥ 0) && (qcj x.b (-1073741824) 1073741824 && qcj x.c 1 1099511627776)
  else if x.code = 3 then qcj x.a 1 1099511627776 && (qcj x.b 0 (n - 1) && decide (x.c = 0))
  else if x.code = 5 then qcj x.a 0 (ps - 1) && (qcj x.b 1 1099511627776 && decide (x.c = 0))
  else if x.code = 6 then qcj x.a 0 1 && (qcj x.b (-1073741824) 1073741824 && decide (x.c = 0))
  else if x.code = 7 then qcj x.a 0 1 && (qcj x.b (-1073741824) 1073741824 && qcj x.c 0 (n - 1))
  else decide (x.a = 0) && (decide (x.b = 0) && decide (x.c = 0))
theorem operP_eq (x : OpI) (n ps : Int) : operP x n ps = qss x n ps := by
  obtain ⟨k, a, b, c⟩ := x
  have e1 : ∀ a m : Int, qcj a 0 (m - 1) = (decide (a ≥ 0) && decide (a < m)) := fun a m => by
    unfold qcj; congr 1; exact decide_eq_decide.2 (by omega)
  have e2 : ∀ a : Int, qcj a 0 1 = (decide (a ≥ 0) && decide (a < 2)) := fun a => e1 a 2
  have e3 : ∀ a : Int, qcj a 1 1099511627776 = qqq a := fun a => rfl
  have e4 : ∀ a : Int, qcj a (-1073741824) 1073741824 = qtb a := fun a => rfl
  simp only [operP, qss, e1, e2, e3, e4, Bool.and_assoc]
section
variable (n ps lps look : Int) (x : OpI)
def okZ (b : Bool) (e : Int) : Int := if b = true then 0 else e
theorem qx9 : (evL T).call qa2 [(.agg [(.v (.int .i64 (n))), (.v (.int .i64 (ps))), (.v (.int .i64 (lps))), (.v (.int .i64 (look)))]), (.agg [(.v (.int .i64 (x.code))), (.v (.int .i64 (x.a))), (.v (.int .i64 (x.b))), (.v (.int .i64 (x.c)))])] [.row 4 [[(.v (.int .i64 (n))), (.v (.int .i64 (ps))), (.v (.int .i64 (lps))), (.v (.int .i64 (look)))]] 0, .row 4 [[(.v (.int .i64 (x.code))), (.v (.int .i64 (x.a))), (.v (.int .i64 (x.b))), (.v (.int .i64 (x.c)))]] 0] = some ((.v (.int .i64 (okZ (qvw x) 22))), [.row 4 [[(.v (.int .i64 (n))), (.v (.int .i64 (ps))), (.v (.int .i64 (lps))), (.v (.int .i64 (look)))]] 0, .row 4 [[(.v (.int .i64 (x.code))), (.v (.int .i64 (x.a))), (.v (.int .i64 (x.b))), (.v (.int .i64 (x.c)))]] 0]) := by
  rw [qu qph qoj]
  have e : qvw x = qcj x.code 1 8 := rfl
  rw [e]
  cases h : qcj x.code 1 8 <;> simp only [qgw, qew, h, okZ, Ev.qm, Ev.exec, Ev.qb, Ev.qe, Ev.qc, Ev.qa9, Ev.qaf, Ev.evs, Ev.Opnd.ev, Ev.Env.get, Ev.Env.set, Ev.look, Ev.qn, Ev.qi, Ev.qab, Ev.AV.cells, Ev.qv, Ev.AV.plain, Ev.ql, Ev.qw, Ev.qae, Ev.kill, Ev.qad, Ev.qd, Ev.SObj.lo, Ev.qa4, Ev.qj, Ev.qk, Ev.qac, Ev.qaq, ↓Ev.qq, ↓reduceIte, List.length_cons, List.length_nil, List.take_succ_cons, List.take_nil, List.drop_zero, List.head?_cons, Nat.reduceAdd, Nat.reduceEqDiff, reduceCtorEq, Bool.and_self, Bool.not_true, Bool.not_false, Bool.false_eq_true, and_self, ne_eq, not_false_eq_true, List.cons_ne_nil, Nat.zero_add, eq_self]
theorem quw : (evL T).call qaw [(.agg [(.v (.int .i64 (n))), (.v (.int .i64 (ps))), (.v (.int .i64 (lps))), (.v (.int .i64 (look)))]), (.agg [(.v (.int .i64 (x.code))), (.v (.int .i64 (x.a))), (.v (.int .i64 (x.b))), (.v (.int .i64 (x.c)))])] [.row 4 [[(.v (.int .i64 (n))), (.v (.int .i64 (ps))), (.v (.int .i64 (lps))), (.v (.int .i64 (look)))]] 0, .row 4 [[(.v (.int .i64 (x.code))), (.v (.int .i64 (x.a))), (.v (.int .i64 (x.b))), (.v (.int .i64 (x.c)))]] 0] = some ((.v (.int .i64 (okZ (q3q lps x) 23))), [.row 4 [[(.v (.int .i64 (n))), (.v (.int .i64 (ps))), (.v (.int .i64 (lps))), (.v (.int .i64 (look)))]] 0, .row 4 [[(.v (.int .i64 (x.code))), (.v (.int .i64 (x.a))), (.v (.int .i64 (x.b))), (.v (.int .i64 (x.c)))]] 0]) := by
  rw [qu qnl qmx]
  by_cases h1 : x.code = 2 <;> by_cases h2 : x.a ≥ lps <;> simp only [qfy, q3q, h1, h2, okZ, Ev.qm, Ev.exec, Ev.qb, Ev.qe, Ev.qc, Ev.qaf, Ev.Opnd.ev, Ev.Env.get, Ev.Env.set, Ev.Env.unset, Ev.look, Ev.qn, Ev.qi, Ev.qab, Ev.AV.cells, Ev.qv, Ev.AV.plain, Ev.qak, Ev.qbz, Ev.ql, Ev.qw, Ev.qae, Ev.kill, Ev.qad, Ev.qd, Ev.SObj.lo, Ev.qa4, Ev.qj, Ev.qk, Ev.qac, Ev.qaq, ↓Ev.qq, ↓reduceIte, List.length_cons, List.length_nil, List.take_succ_cons, List.take_nil, List.drop_succ_cons, List.drop_zero, List.head?_cons, Nat.reduceAdd, Nat.reduceEqDiff, reduceCtorEq, decide_true, decide_false, Bool.and_self, Bool.and_true, Bool.not_true, Bool.not_false, Bool.false_eq_true, and_self, ne_eq, not_false_eq_true, List.cons_ne_nil, Nat.zero_add, eq_self, Bool.and_false]
theorem qv7 : (evL T).call qay [(.agg [(.v (.int .i64 (n))), (.v (.int .i64 (ps))), (.v (.int .i64 (lps))), (.v (.int .i64 (look)))]), (.agg [(.v (.int .i64 (x.code))), (.v (.int .i64 (x.a))), (.v (.int .i64 (x.b))), (.v (.int .i64 (x.c)))])] [.row 4 [[(.v (.int .i64 (n))), (.v (.int .i64 (ps))), (.v (.int .i64 (lps))), (.v (.int .i64 (look)))]] 0, .row 4 [[(.v (.int .i64 (x.code))), (.v (.int .i64 (x.a))), (.v (.int .i64 (x.b))), (.v (.int .i64 (x.c)))]] 0] = some ((.v (.int .i64 (okZ (qnb look x) 21))), [.row 4 [[(.v (.int .i64 (n))), (.v (.int .i64 (ps))), (.v (.int .i64 (lps))), (.v (.int .i64 (look)))]] 0, .row 4 [[(.v (.int .i64 (x.code))), (.v (.int .i64 (x.a))), (.v (.int .i64 (x.b))), (.v (.int .i64 (x.c)))]] 0]) := by
  rw [qu qob qnn]
  by_cases h1 : x.code = 2 <;> by_cases h2 : x.c < look <;> simp only [qgb, qnb, h1, h2, okZ, Ev.qm, Ev.exec, Ev.qb, Ev.qe, Ev.qc, Ev.qaf, Ev.Opnd.ev, Ev.Env.get, Ev.Env.set, Ev.Env.unset, Ev.look, Ev.qn, Ev.qi, Ev.qab, Ev.AV.cells, Ev.qv, Ev.AV.plain, Ev.qak, Ev.qo, Ev.ql, Ev.qw, Ev.qae, Ev.kill, Ev.qad, Ev.qd, Ev.SObj.lo, Ev.qa4, Ev.qj, Ev.qk, Ev.qac, Ev.qaq, ↓Ev.qq, ↓reduceIte, List.length_cons, List.length_nil, List.take_succ_cons, List.take_nil, List.drop_succ_cons, List.drop_zero, List.head?_cons, Nat.reduceAdd, Nat.reduceEqDiff, reduceCtorEq, decide_true, decide_false, Bool.and_self, Bool.and_true, Bool.not_true, Bool.not_false, Bool.false_eq_true, and_self, ne_eq, not_false_eq_true, List.cons_ne_nil, Nat.zero_add, eq_self, Bool.and_false]
theorem qs1 (hn : IntKind.i64.wrap (n - 1) = n - 1) (hp : IntKind.i64.wrap (ps - 1) = ps - 1) :
    (evL T).call qas [(.agg [(.v (.int .i64 (n))), (.v (.int .i64 (ps))), (.v (.int .i64 (lps))), (.v (.int .i64 (look)))]), (.agg [(.v (.int .i64 (x.code))), (.v (.int .i64 (x.a))), (.v (.int .i64 (x.b))), (.v (.int .i64 (x.c)))])] [.row 4 [[(.v (.int .i64 (n))), (.v (.int .i64 (ps))), (.v (.int .i64 (lps))), (.v (.int .i64 (look)))]] 0, .row 4 [[(.v (.int .i64 (x.code))), (.v (.int .i64 (x.a))), (.v (.int .i64 (x.b))), (.v (.int .i64 (x.c)))]] 0] = some ((.v (.int .i64 (okZ (qss x n ps) 22))), [.row 4 [[(.v (.int .i64 (n))), (.v (.int .i64 (ps))), (.v (.int .i64 (lps))), (.v (.int .i64 (look)))]] 0, .row 4 [[(.v (.int .i64 (x.code))), (.v (.int .i64 (x.a))), (.v (.int .i64 (x.b))), (.v (.int .i64 (x.c)))]] 0]) := by
  rw [qu ql2 qly, ← operP_eq]
  obtain ⟨k, a, b, c⟩ := x
  simp only [operP]
  have e0 : ∀ z : Int, ((0 : Int) == z) = decide (z = 0) := fun z => by rw [Bool.eq_iff_iff, beq_iff_eq, decide_eq_true_eq]; exact eq_comm
  by_cases k1 : k = 1
  · subst k1
    cases h1 : qcj a 1 1099511627776 <;> by_cases h2 : b = 0 <;> by_cases h3 : c = 0 <;> simp only [qbq, qew, h1, h2, h3, e0, okZ, Ev.qm, Ev.exec, Ev.qb, Ev.qe, Ev.qc, Ev.qa9, Ev.qaf, Ev.evs, Ev.Opnd.ev, Ev.Env.get, Ev.Env.set, Ev.Env.unset, Ev.look, Ev.qn, Ev.qi, Ev.qab, Ev.qff, Ev.AV.cells, Ev.AV.uc, Ev.qv, Ev.AV.plain, Ev.qak, Ev.qfm, Ev.ql, Ev.qw, Ev.qae, Ev.kill, Ev.qad, Ev.qd, Ev.SObj.lo, Ev.qa4, Ev.qj, Ev.qk, Ev.qac, Ev.qaq, ↓Ev.qq, ↓reduceIte, List.length_cons, List.length_nil, List.getElem?_cons_zero, List.getElem?_cons_succ, List.take_succ_cons, List.take_zero, List.take_nil, List.drop_succ_cons, List.drop_zero, List.drop_nil, List.cons_append, List.nil_append, List.append_nil, List.set_cons_zero, List.set_cons_succ, List.head?_cons, Nat.reduceAdd, Nat.reduceEqDiff, Nat.reduceLeDiff, Int.reduceNeg, reduceCtorEq, decide_true, decide_false, Bool.and_self, Bool.and_true, Bool.not_true, Bool.not_false, Bool.false_eq_true, Bool.true_eq_false, and_self, ne_eq, not_false_eq_true, List.cons_ne_nil, Nat.zero_add, Nat.le_refl, eq_self, beq_self_eq_true, Bool.and_false]
  by_cases k2 : k = 2
  · subst k2
    by_cases h1 : a ≥ 0 <;> cases h2 : qcj b (-1073741824) 1073741824 <;> cases h3 : qcj c 1 1099511627776 <;> simp only [qbq, qew, h1, h2, h3, okZ, Ev.qm, Ev.exec, Ev.qb, Ev.qe, Ev.qc, Ev.qa9, Ev.qaf, Ev.evs, Ev.Opnd.ev, Ev.Env.get, Ev.Env.set, Ev.Env.unset, Ev.look, Ev.qn, Ev.qi, Ev.qab, Ev.qff, Ev.AV.cells, Ev.AV.uc, Ev.qv, Ev.AV.plain, Ev.qak, Ev.qbz, Ev.qfm, Ev.ql, Ev.qw, Ev.qae, Ev.kill, Ev.qad, Ev.qd, Ev.SObj.lo, Ev.qa4, Ev.qj, Ev.qk, Ev.qac, Ev.qaq, ↓Ev.qq, ↓reduceIte, List.length_cons, List.length_nil, List.getElem?_cons_zero, List.getElem?_cons_succ, List.take_succ_cons, List.take_zero, List.take_nil, List.drop_succ_cons, List.drop_zero, List.drop_nil, List.cons_append, List.nil_append, List.append_nil, List.set_cons_zero, List.set_cons_succ, List.head?_cons, Nat.reduceAdd, Nat.reduceEqDiff, Nat.reduceLeDiff, Int.reduceEq, Int.reduceNeg, reduceCtorEq, decide_true, decide_false, Bool.and_self, Bool.and_true, Bool.not_true, Bool.not_false, Bool.false_eq_true, Bool.true_eq_false, and_self, ne_eq, not_false_eq_true, List.cons_ne_nil, Nat.zero_add, Nat.le_refl, eq_self, beq_self_eq_true, Bool.and_false]
  by_cases k3 : k = 3
  · subst k3
    cases h1 : qcj a 1 1099511627776 <;> cases h2 : qcj b 0 (n - 1) <;> by_cases h3 : c = 0 <;> simp only [qbq, qew, hn, h1, h2, h3, e0, okZ, Ev.qm, Ev.exec, Ev.qb, Ev.qe, Ev.qc, Ev.qa9, Ev.qaf, Ev.evs, Ev.Opnd.ev, Ev.Env.get, Ev.Env.set, Ev.Env.unset, Ev.look, Ev.qn, Ev.qi, Ev.qab, Ev.qff, Ev.AV.cells, Ev.AV.uc, Ev.qv, Ev.AV.plain, Ev.qce, Ev.qak, Ev.qfm, Ev.ql, Ev.qw, Ev.qae, Ev.kill, Ev.qad, Ev.qd, Ev.SObj.lo, Ev.qa4, Ev.qj, Ev.qk, Ev.qac, Ev.qaq, ↓Ev.qq, ↓reduceIte, List.length_cons, List.length_nil, List.getElem?_cons_zero, List.getElem?_cons_succ, List.take_succ_cons, List.take_zero, List.take_nil, List.drop_succ_cons, List.drop_zero, List.drop_nil, List.cons_append, List.nil_append, List.append_nil, List.set_cons_zero, List.set_cons_succ, List.head?_cons, Nat.reduceAdd, Nat.reduceEqDiff, Nat.reduceLeDiff, Int.reduceEq, Int.reduceNeg, reduceCtorEq, decide_true, decide_false, Bool.and_self, Bool.and_true, Bool.not_true, Bool.not_false, Bool.false_eq_true, Bool.true_eq_false, and_self, ne_eq, not_false_eq_true, List.cons_ne_nil, Nat.zero_add, Nat.le_refl, eq_self, beq_self_eq_true, Bool.and_false]
  by_cases k5 : k = 5
  · subst k5
    cases h1 : qcj a 0 (ps - 1) <;> cases h2 : qcj b 1 1099511627776 <;> by_cases h3 : c = 0 <;> simp only [qbq, qew, hp, h1, h2, h3, e0, okZ, Ev.qm, Ev.exec, Ev.qb, Ev.qe, Ev.qc, Ev.qa9, Ev.qaf, Ev.evs, Ev.Opnd.ev, Ev.Env.get, Ev.Env.set, Ev.Env.unset, Ev.look, Ev.qn, Ev.qi, Ev.qab, Ev.qff, Ev.AV.cells, Ev.AV.uc, Ev.qv, Ev.AV.plain, Ev.qce, Ev.qak, Ev.qfm, Ev.ql, Ev.qw, Ev.qae, Ev.kill, Ev.qad, Ev.qd, Ev.SObj.lo, Ev.qa4, Ev.qj, Ev.qk, Ev.qac, Ev.qaq, ↓Ev.qq, ↓reduceIte, List.length_cons, List.length_nil, List.getElem?_cons_zero, List.getElem?_cons_succ, List.take_succ_cons, List.take_zero, List.take_nil, List.drop_succ_cons, List.drop_zero, List.drop_nil, List.cons_append, List.nil_append, List.append_nil, List.set_cons_zero, List.set_cons_succ, List.head?_cons, Nat.reduceAdd, Nat.reduceEqDiff, Nat.reduceLeDiff, Int.reduceEq, Int.reduceNeg, reduceCtorEq, decide_true, decide_false, Bool.and_self, Bool.and_true, Bool.not_true, Bool.not_false, Bool.false_eq_true, Bool.true_eq_false, and_self, ne_eq, not_false_eq_true, List.cons_ne_nil, Nat.zero_add, Nat.le_refl, eq_self, beq_self_eq_true, Bool.and_false]
  by_cases k6 : k = 6
  · subst k6
    cases h1 : qcj a 0 1 <;> cases h2 : qcj b (-1073741824) 1073741824 <;> by_cases h3 : c = 0 <;> simp only [qbq, qew, h1, h2, h3, e0, okZ, Ev.qm, Ev.exec, Ev.qb, Ev.qe, Ev.qc, Ev.qa9, Ev.qaf, Ev.evs, Ev.Opnd.ev, Ev.Env.get, Ev.Env.set, Ev.Env.unset, Ev.look, Ev.qn, Ev.qi, Ev.qab, Ev.qff, Ev.AV.cells, Ev.AV.uc, Ev.qv, Ev.AV.plain, Ev.qak, Ev.qfm, Ev.ql, Ev.qw, Ev.qae, Ev.kill, Ev.qad, Ev.qd, Ev.SObj.lo, Ev.qa4, Ev.qj, Ev.qk, Ev.qac, Ev.qaq, ↓Ev.qq, ↓reduceIte, List.length_cons, List.length_nil, List.getElem?_cons_zero, List.getElem?_cons_succ, List.take_succ_cons, List.take_zero, List.take_nil, List.drop_succ_cons, List.drop_zero, List.drop_nil, List.cons_append, List.nil_append, List.append_nil, List.set_cons_zero, List.set_cons_succ, List.head?_cons, Nat.reduceAdd, Nat.reduceEqDiff, Nat.reduceLeDiff, Int.reduceEq, Int.reduceNeg, reduceCtorEq, decide_true, decide_false, Bool.and_self, Bool.and_true, Bool.not_true, Bool.not_false, Bool.false_eq_true, Bool.true_eq_false, and_self, ne_eq, not_false_eq_true, List.cons_ne_nil, Nat.zero_add, Nat.le_refl, eq_self, beq_self_eq_true, Bool.and_false]
  by_cases k7 : k = 7
  · subst k7
    cases h1 : qcj a 0 1 <;> cases h2 : qcj b (-1073741824) 1073741824 <;> cases h3 : qcj c 0 (n - 1) <;> simp only [qbq, qew, hn, h1, h2, h3, okZ, Ev.qm, Ev.exec, Ev.qb, Ev.qe, Ev.qc, Ev.qa9, Ev.qaf, Ev.evs, Ev.Opnd.ev, Ev.Env.get, Ev.Env.set, Ev.Env.unset, Ev.look, Ev.qn, Ev.qi, Ev.qab, Ev.qff, Ev.AV.cells, Ev.AV.uc, Ev.qv, Ev.AV.plain, Ev.qce, Ev.qak, Ev.qfm, Ev.ql, Ev.qw, Ev.qae, Ev.kill, Ev.qad, Ev.qd, Ev.SObj.lo, Ev.qa4, Ev.qj, Ev.qk, Ev.qac, Ev.qaq, ↓Ev.qq, ↓reduceIte, List.length_cons, List.length_nil, List.getElem?_cons_zero, List.getElem?_cons_succ, List.take_succ_cons, List.take_zero, List.take_nil, List.drop_succ_cons, List.drop_zero, List.drop_nil, List.cons_append, List.nil_append, List.append_nil, List.set_cons_zero, List.set_cons_succ, List.head?_cons, Nat.reduceAdd, Nat.reduceEqDiff, Nat.reduceLeDiff, Int.reduceEq, Int.reduceNeg, reduceCtorEq, decide_true, decide_false, Bool.and_self, Bool.and_true, Bool.not_true, Bool.not_false, Bool.false_eq_true, Bool.true_eq_false, and_self, ne_eq, not_false_eq_true, List.cons_ne_nil, Nat.zero_add, Nat.le_refl, eq_self, beq_self_eq_true, Bool.and_false]
  by_cases h1 : a = 0 <;> by_cases h2 : b = 0 <;> by_cases h3 : c = 0 <;> simp only [qbq, k1, k2, k3, k5, k6, k7, h1, h2, h3, e0, okZ, Ev.qm, Ev.exec, Ev.qb, Ev.qe, Ev.qc, Ev.qaf, Ev.Opnd.ev, Ev.Env.get, Ev.Env.set, Ev.look, Ev.qn, Ev.qi, Ev.qab, Ev.qff, Ev.AV.cells, Ev.AV.uc, Ev.qv, Ev.AV.plain, Ev.qak, Ev.qfm, Ev.ql, Ev.qw, Ev.qae, Ev.kill, Ev.qad, Ev.qd, Ev.SObj.lo, Ev.qa4, Ev.qj, Ev.qk, Ev.qac, Ev.qaq, ↓Ev.qq, ↓reduceIte, List.length_cons, List.length_nil, List.getElem?_cons_zero, List.getElem?_cons_succ, List.take_succ_cons, List.take_zero, List.take_nil, List.drop_succ_cons, List.drop_zero, List.drop_nil, List.cons_append, List.nil_append, List.append_nil, List.set_cons_zero, List.set_cons_succ, List.head?_cons, Nat.reduceAdd, Nat.reduceEqDiff, Nat.reduceLeDiff, Int.reduceNeg, reduceCtorEq, decide_true, decide_false, Bool.and_self, Bool.and_true, Bool.not_true, Bool.not_false, Bool.false_eq_true, and_self, ne_eq, not_false_eq_true, List.cons_ne_nil, Nat.zero_add, Nat.le_refl, eq_self, beq_self_eq_true, Bool.and_false]
end
section
variable (p : List OpI) (c : Bool) (n ps lps look : Int)
def rulesL (n ps lps look : Int) : List (List AV) := [[.fn (.func qa2) [(.agg [(.v (.int .i64 (n))), (.v (.int .i64 (ps))), (.v (.int .i64 (lps))), (.v (.int .i64 (look)))])] []], [.fn (.func qas) [(.agg [(.v (.int .i64 (n))), (.v (.int .i64 (ps))), (.v (.int .i64 (lps))), (.v (.int .i64 (look)))])] []], [.fn (.func qaw) [(.agg [(.v (.int .i64 (n))), (.v (.int .i64 (ps))), (.v (.int .i64 (lps))), (.v (.int .i64 (look)))])] []], [.fn (.func qay) [(.agg [(.v (.int .i64 (n))), (.v (.int .i64 (ps))), (.v (.int .i64 (lps))), (.v (.int .i64 (look)))])] []]]
theorem q2e (k : Nat) (j : Int) (f : OpI → Bool) (err : Int) (herr : err ≠ 0) (hl : p.length ≤ 16) (hr : ∀ x, (evL T).call k [(.agg [(.v (.int .i64 (n))), (.v (.int .i64 (ps))), (.v (.int .i64 (lps))), (.v (.int .i64 (look)))]), (.agg [(.v (.int .i64 (x.code))), (.v (.int .i64 (x.a))), (.v (.int .i64 (x.b))), (.v (.int .i64 (x.c)))])] [.row 4 [[(.v (.int .i64 (n))), (.v (.int .i64 (ps))), (.v (.int .i64 (lps))), (.v (.int .i64 (look)))]] 0, .row 4 [[(.v (.int .i64 (x.code))), (.v (.int .i64 (x.a))), (.v (.int .i64 (x.b))), (.v (.int .i64 (x.c)))]] 0] = some ((.v (.int .i64 (okZ (f x) err))), [.row 4 [[(.v (.int .i64 (n))), (.v (.int .i64 (ps))), (.v (.int .i64 (lps))), (.v (.int .i64 (look)))]] 0, .row 4 [[(.v (.int .i64 (x.code))), (.v (.int .i64 (x.a))), (.v (.int .i64 (x.b))), (.v (.int .i64 (x.c)))]] 0])) :
    ∃ y, itB (exec (evL T) itL none qhd) (Ev.qs [0, 11, 33, 34, 35, 39, 40, 41] true 1) ⟨[(0, (.fsl ((p).map OpI.r) c)), (11, .fn (.func k) [(.agg [(.v (.int .i64 (n))), (.v (.int .i64 (ps))), (.v (.int .i64 (lps))), (.v (.int .i64 (look)))])] []), (33, (.fsl [[.fn (.func qa2) [(.agg [(.v (.int .i64 (n))), (.v (.int .i64 (ps))), (.v (.int .i64 (lps))), (.v (.int .i64 (look)))])] []], [.fn (.func qas) [(.agg [(.v (.int .i64 (n))), (.v (.int .i64 (ps))), (.v (.int .i64 (lps))), (.v (.int .i64 (look)))])] []], [.fn (.func qaw) [(.agg [(.v (.int .i64 (n))), (.v (.int .i64 (ps))), (.v (.int .i64 (lps))), (.v (.int .i64 (look)))])] []], [.fn (.func qay) [(.agg [(.v (.int .i64 (n))), (.v (.int .i64 (ps))), (.v (.int .i64 (lps))), (.v (.int .i64 (look)))])] []]] true)), (34, (.v (.int .i64 (4)))), (35, (.v (.int .i64 (j)))), (39, (.fsl ((p).map OpI.r) c)), (40, (.v (.int .i64 (p.length)))), (41, (.v (.int .i64 (0))))], []⟩ [.row 4 [[(.v (.int .i64 (n))), (.v (.int .i64 (ps))), (.v (.int .i64 (lps))), (.v (.int .i64 (look)))]] 0] = some y ∧
      (p.all f = true ∧ (y.1 = .exit 2 ∧ y.2.1.marks = [] ∧ y.2.2 = [.row 4 [[(.v (.int .i64 (n))), (.v (.int .i64 (ps))), (.v (.int .i64 (lps))), (.v (.int .i64 (look)))]] 0] ∧ Ev.look y.2.1.vars 0 = some (.fsl ((p).map OpI.r) c) ∧ Ev.look y.2.1.vars 33 = some (.fsl [[.fn (.func qa2) [(.agg [(.v (.int .i64 (n))), (.v (.int .i64 (ps))), (.v (.int .i64 (lps))), (.v (.int .i64 (look)))])] []], [.fn (.func qas) [(.agg [(.v (.int .i64 (n))), (.v (.int .i64 (ps))), (.v (.int .i64 (lps))), (.v (.int .i64 (look)))])] []], [.fn (.func qaw) [(.agg [(.v (.int .i64 (n))), (.v (.int .i64 (ps))), (.v (.int .i64 (lps))), (.v (.int .i64 (look)))])] []], [.fn (.func qay) [(.agg [(.v (.int .i64 (n))), (.v (.int .i64 (ps))), (.v (.int .i64 (lps))), (.v (.int .i64 (look)))])] []]] true) ∧ Ev.look y.2.1.vars 34 = some (.v (.int .i64 (4))) ∧ Ev.look y.2.1.vars 35 = some (.v (.int .i64 (j)))) ∨
      p.all f = false ∧ ∃ x, p.find? (fun x => !f x) = some x ∧ (y.1 = .ret ∧ y.2.1.marks = [] ∧ y.2.2 = [.row 4 [[(.v (.int .i64 (n))), (.v (.int .i64 (ps))), (.v (.int .i64 (lps))), (.v (.int .i64 (look)))]] 0, .row 4 [[(.v (.int .i64 (x.code))), (.v (.int .i64 (x.a))), (.v (.int .i64 (x.b))), (.v (.int .i64 (x.c)))]] 0] ∧ Ev.look y.2.1.vars 8 = some (.v (.int .i64 (err))))) := by
  refine qfg p (fun i => ⟨[(0, (.fsl ((p).map OpI.r) c)), (11, .fn (.func k) [(.agg [(.v (.int .i64 (n))), (.v (.int .i64 (ps))), (.v (.int .i64 (lps))), (.v (.int .i64 (look)))])] []), (33, (.fsl [[.fn (.func qa2) [(.agg [(.v (.int .i64 (n))), (.v (.int .i64 (ps))), (.v (.int .i64 (lps))), (.v (.int .i64 (look)))])] []], [.fn (.func qas) [(.agg [(.v (.int .i64 (n))), (.v (.int .i64 (ps))), (.v (.int .i64 (lps))), (.v (.int .i64 (look)))])] []], [.fn (.func qaw) [(.agg [(.v (.int .i64 (n))), (.v (.int .i64 (ps))), (.v (.int .i64 (lps))), (.v (.int .i64 (look)))])] []], [.fn (.func qay) [(.agg [(.v (.int .i64 (n))), (.v (.int .i64 (ps))), (.v (.int .i64 (lps))), (.v (.int .i64 (look)))])] []]] true)), (34, (.v (.int .i64 (4)))), (35, (.v (.int .i64 (j)))), (39, (.fsl ((p).map OpI.r) c)), (40, (.v (.int .i64 (p.length)))), (41, (.v (.int .i64 (i))))], []⟩) [.row 4 [[(.v (.int .i64 (n))), (.v (.int .i64 (ps))), (.v (.int .i64 (lps))), (.v (.int .i64 (look)))]] 0] f _ (fun x y => _) ?_ ?_ ?_
  · intro i x hi hx hp
    have hi' : (i : Int) < (p.length : Int) := by omega
    have hw : IntKind.i64.wrap ((i : Int) + 1) = ((i + 1 : Nat) : Int) := by rw [qat (by omega) (by omega)]; simp
    have h1 := hr x
    rw [hp] at h1
    simp only [okZ, if_true] at h1
    simp only [qhd, Int.natCast_nonneg, Int.toNat_natCast, List.getElem?_map, Option.map_some, OpI.r, hx, hi', hw, h1, qf4, Ev.exec, Ev.qb, Ev.qe, Ev.qc, Ev.qhl, Ev.qaf, Ev.evs, Ev.Opnd.ev, Ev.Env.get, Ev.Env.set, Ev.look, Ev.qi, Ev.qab, Ev.AV.cells, Ev.qv, Ev.AV.plain, Ev.qaj, Ev.qbd, Ev.qo, Ev.qs, Ev.keep, Ev.qai, Ev.qaa, Ev.qd, Ev.SObj.lo, Ev.qa4, Ev.qbn, Ev.qy, Ev.qde, Ev.qj, Ev.qk, Ev.qac, Ev.qaq, ↓Ev.qq, Ev.it1, ↓reduceIte, List.length_cons, List.length_nil, List.getElem?_cons_zero, List.getElem?_cons_succ, List.take_succ_cons, List.take_zero, List.take_nil, List.drop_succ_cons, List.drop_zero, List.drop_nil, List.cons_append, List.nil_append, List.append_nil, List.set_cons_zero, List.set_cons_succ, Nat.reduceAdd, Nat.reduceEqDiff, reduceCtorEq, decide_true, decide_false, Bool.and_self, Bool.false_eq_true, and_self, ne_eq, not_false_eq_true, not_true_eq_false, List.cons_ne_nil, Nat.zero_add, Nat.le_refl, eq_self]
  · intro i x hi hx hp
    have hi' : (i : Int) < (p.length : Int) := by omega
    have h1 := hr x
    rw [hp] at h1
    simp only [okZ, Bool.false_eq_true, if_false] at h1
    simp only [qhd, Int.natCast_nonneg, Int.toNat_natCast, List.getElem?_map, Option.map_some, OpI.r, hx, hi', h1, herr, Ev.exec, Ev.qb, Ev.qe, Ev.qc, Ev.qhl, Ev.qaf, Ev.evs, Ev.Opnd.ev, Ev.Env.get, Ev.Env.set, Ev.look, Ev.qi, Ev.qab, Ev.AV.cells, Ev.qv, Ev.AV.plain, Ev.qbd, Ev.qo, ↓Ev.qq, Ev.it1, ↓reduceIte, List.length_cons, List.length_nil, List.getElem?_cons_zero, List.getElem?_cons_succ, List.take_succ_cons, List.take_zero, List.take_nil, List.drop_succ_cons, List.drop_zero, List.drop_nil, List.cons_append, List.nil_append, List.append_nil, List.set_cons_zero, List.set_cons_succ, Nat.reduceAdd, Nat.reduceEqDiff, reduceCtorEq, decide_true, Bool.and_self, and_self, ne_eq, not_false_eq_true, List.cons_ne_nil, Nat.zero_add, Nat.le_refl, eq_self]
    exact ⟨_, rfl, rfl, rfl, rfl, rfl⟩
  · simp only [qhd, Int.lt_irrefl, Ev.exec, Ev.qb, Ev.qe, Ev.qc, Ev.qaf, Ev.Opnd.ev, Ev.Env.get, Ev.Env.set, Ev.look, Ev.qo, ↓Ev.qq, Ev.it1, ↓reduceIte, Nat.reduceEqDiff, reduceCtorEq, decide_false, Bool.false_eq_true, eq_self]
    exact ⟨_, rfl, rfl, rfl, rfl, rfl, rfl, rfl, rfl⟩
theorem qpx (hl : p.length ≤ 16) (j : Nat) (k : Nat) (f : OpI → Bool) (err : Int) (herr : err ≠ 0) (hj : (rulesL n ps lps look)[j]? = some [.fn (.func k) [(.agg [(.v (.int .i64 (n))), (.v (.int .i64 (ps))), (.v (.int .i64 (lps))), (.v (.int .i64 (look)))])] []]) (hr : ∀ x, (evL T).call k [(.agg [(.v (.int .i64 (n))), (.v (.int .i64 (ps))), (.v (.int .i64 (lps))), (.v (.int .i64 (look)))]), (.agg [(.v (.int .i64 (x.code))), (.v (.int .i64 (x.a))), (.v (.int .i64 (x.b))), (.v (.int .i64 (x.c)))])] [.row 4 [[(.v (.int .i64 (n))), (.v (.int .i64 (ps))), (.v (.int .i64 (lps))), (.v (.int .i64 (look)))]] 0, .row 4 [[(.v (.int .i64 (x.code))), (.v (.int .i64 (x.a))), (.v (.int .i64 (x.b))), (.v (.int .i64 (x.c)))]] 0] = some ((.v (.int .i64 (okZ (f x) err))), [.row 4 [[(.v (.int .i64 (n))), (.v (.int .i64 (ps))), (.v (.int .i64 (lps))), (.v (.int .i64 (look)))]] 0, .row 4 [[(.v (.int .i64 (x.code))), (.v (.int .i64 (x.a))), (.v (.int .i64 (x.b))), (.v (.int .i64 (x.c)))]] 0])) :
    (p.all f = true ∧ it1 (exec (evL T) itL none qef) (Ev.qs [0, 33, 34, 35] true 1) ⟨[(0, (.fsl ((p).map OpI.r) c)), (33, (.fsl [[.fn (.func qa2) [(.agg [(.v (.int .i64 (n))), (.v (.int .i64 (ps))), (.v (.int .i64 (lps))), (.v (.int .i64 (look)))])] []], [.fn (.func qas) [(.agg [(.v (.int .i64 (n))), (.v (.int .i64 (ps))), (.v (.int .i64 (lps))), (.v (.int .i64 (look)))])] []], [.fn (.func qaw) [(.agg [(.v (.int .i64 (n))), (.v (.int .i64 (ps))), (.v (.int .i64 (lps))), (.v (.int .i64 (look)))])] []], [.fn (.func qay) [(.agg [(.v (.int .i64 (n))), (.v (.int .i64 (ps))), (.v (.int .i64 (lps))), (.v (.int .i64 (look)))])] []]] true)), (34, (.v (.int .i64 (4)))), (35, (.v (.int .i64 ((j : Int)))))], []⟩ [.row 4 [[(.v (.int .i64 (n))), (.v (.int .i64 (ps))), (.v (.int .i64 (lps))), (.v (.int .i64 (look)))]] 0] = some (.inl (⟨[(0, (.fsl ((p).map OpI.r) c)), (33, (.fsl [[.fn (.func qa2) [(.agg [(.v (.int .i64 (n))), (.v (.int .i64 (ps))), (.v (.int .i64 (lps))), (.v (.int .i64 (look)))])] []], [.fn (.func qas) [(.agg [(.v (.int .i64 (n))), (.v (.int .i64 (ps))), (.v (.int .i64 (lps))), (.v (.int .i64 (look)))])] []], [.fn (.func qaw) [(.agg [(.v (.int .i64 (n))), (.v (.int .i64 (ps))), (.v (.int .i64 (lps))), (.v (.int .i64 (look)))])] []], [.fn (.func qay) [(.agg [(.v (.int .i64 (n))), (.v (.int .i64 (ps))), (.v (.int .i64 (lps))), (.v (.int .i64 (look)))])] []]] true)), (34, (.v (.int .i64 (4)))), (35, (.v (.int .i64 (((j + 1 : Nat) : Int)))))], []⟩, [.row 4 [[(.v (.int .i64 (n))), (.v (.int .i64 (ps))), (.v (.int .i64 (lps))), (.v (.int .i64 (look)))]] 0]))) ∨
    (p.all f = false ∧ ∃ y, it1 (exec (evL T) itL none qef) (Ev.qs [0, 33, 34, 35] true 1) ⟨[(0, (.fsl ((p).map OpI.r) c)), (33, (.fsl [[.fn (.func qa2) [(.agg [(.v (.int .i64 (n))), (.v (.int .i64 (ps))), (.v (.int .i64 (lps))), (.v (.int .i64 (look)))])] []], [.fn (.func qas) [(.agg [(.v (.int .i64 (n))), (.v (.int .i64 (ps))), (.v (.int .i64 (lps))), (.v (.int .i64 (look)))])] []], [.fn (.func qaw) [(.agg [(.v (.int .i64 (n))), (.v (.int .i64 (ps))), (.v (.int .i64 (lps))), (.v (.int .i64 (look)))])] []], [.fn (.func qay) [(.agg [(.v (.int .i64 (n))), (.v (.int .i64 (ps))), (.v (.int .i64 (lps))), (.v (.int .i64 (look)))])] []]] true)), (34, (.v (.int .i64 (4)))), (35, (.v (.int .i64 ((j : Int)))))], []⟩ [.row 4 [[(.v (.int .i64 (n))), (.v (.int .i64 (ps))), (.v (.int .i64 (lps))), (.v (.int .i64 (look)))]] 0] = some (.inr y) ∧ y.1 = .ret ∧ y.2.1.marks = [] ∧ (∃ x : OpI, y.2.2 = [.row 4 [[(.v (.int .i64 (n))), (.v (.int .i64 (ps))), (.v (.int .i64 (lps))), (.v (.int .i64 (look)))]] 0, .row 4 [[(.v (.int .i64 (x.code))), (.v (.int .i64 (x.a))), (.v (.int .i64 (x.b))), (.v (.int .i64 (x.c)))]] 0]) ∧ Ev.look y.2.1.vars 8 = some (.v (.int .i64 (err)))) := by
  obtain ⟨⟨y, e, σ⟩, k1, k2⟩ := q2e p c n ps lps look k j f err herr hl hr
  have hj4 : j < 4 := (List.getElem?_eq_some_iff.1 hj).1
  have hi' : (j : Int) < 4 := by omega
  have hw : IntKind.i64.wrap ((j : Int) + 1) = ((j + 1 : Nat) : Int) := by rw [qat (by omega) (by omega)]; simp
  simp only [rulesL] at hj
  simp only at k2
  rcases k2 with ⟨q1, rfl, q2, rfl, q3, q4, q5, q6⟩ | ⟨q1, x, _, rfl, q2, rfl, q3⟩
  · refine .inl ⟨q1, ?_⟩
    simp only [qef, Int.natCast_nonneg, Int.toNat_natCast, hi', hw, hj, k1, q2, q3, q4, q5, q6, qf4, Ev.exec, Ev.qb, Ev.qe, Ev.qc, Ev.qaf, Ev.Opnd.ev, Ev.Env.get, Ev.Env.set, Ev.look, Ev.qi, Ev.qab, Ev.qaj, Ev.qo, Ev.qs, Ev.keep, Ev.qai, Ev.qaa, Ev.qd, Ev.SObj.lo, Ev.qa4, Ev.qbn, Ev.qy, Ev.qde, Ev.qj, Ev.qk, Ev.qac, Ev.qaq, List.length_map, ↓Ev.qq, ↓Ev.qan, Ev.it1, ↓reduceIte, List.length_cons, List.length_nil, List.take_succ_cons, List.take_nil, List.head?_cons, Nat.reduceEqDiff, reduceCtorEq, decide_true, Bool.and_self, Bool.false_eq_true, and_self, Nat.zero_add, eq_self]
  · refine .inr ⟨q1, ?_⟩
    simp only [qef, Int.natCast_nonneg, Int.toNat_natCast, hi', hj, k1, qf4, Ev.exec, Ev.qb, Ev.qe, Ev.qc, Ev.qaf, Ev.Opnd.ev, Ev.Env.get, Ev.Env.set, Ev.look, Ev.qi, Ev.qab, Ev.qo, Ev.qs, Ev.keep, Ev.qai, Ev.qaa, Ev.qd, Ev.SObj.lo, Ev.qa4, Ev.qbn, Ev.qy, Ev.qde, Ev.qj, Ev.qk, Ev.qac, Ev.qaq, List.length_map, ↓Ev.qq, ↓Ev.qan, Ev.it1, ↓reduceIte, List.length_cons, List.length_nil, List.take_succ_cons, List.take_nil, List.head?_cons, Nat.reduceEqDiff, reduceCtorEq, decide_true, Bool.and_self, Bool.false_eq_true, and_self, Nat.zero_add, eq_self]
    exact ⟨_, rfl, rfl, q2, ⟨x, rfl⟩, q3⟩
def q8s : Int := if p.all qvw = false then 22 else if p.all (fun x => qss x n ps) = false then 22 else if p.all (q3q lps) = false then 23 else if p.all (qnb look) = false then 21 else 0
theorem q2v (hl : p.length ≤ 16) (hn : IntKind.i64.wrap (n - 1) = n - 1) (hp : IntKind.i64.wrap (ps - 1) = ps - 1) :
    ∃ y, itB (exec (evL T) itL none qef) (Ev.qs [0, 33, 34, 35] true 1) ⟨[(0, (.fsl ((p).map OpI.r) c)), (33, (.fsl [[.fn (.func qa2) [(.agg [(.v (.int .i64 (n))), (.v (.int .i64 (ps))), (.v (.int .i64 (lps))), (.v (.int .i64 (look)))])] []], [.fn (.func qas) [(.agg [(.v (.int .i64 (n))), (.v (.int .i64 (ps))), (.v (.int .i64 (lps))), (.v (.int .i64 (look)))])] []], [.fn (.func qaw) [(.agg [(.v (.int .i64 (n))), (.v (.int .i64 (ps))), (.v (.int .i64 (lps))), (.v (.int .i64 (look)))])] []], [.fn (.func qay) [(.agg [(.v (.int .i64 (n))), (.v (.int .i64 (ps))), (.v (.int .i64 (lps))), (.v (.int .i64 (look)))])] []]] true)), (34, (.v (.int .i64 (4)))), (35, (.v (.int .i64 (0))))], []⟩ [.row 4 [[(.v (.int .i64 (n))), (.v (.int .i64 (ps))), (.v (.int .i64 (lps))), (.v (.int .i64 (look)))]] 0] = some y ∧
      (q8s p n ps lps look = 0 ∧ (y.1 = .exit 0 ∧ y.2.1.marks = [] ∧ y.2.2 = [.row 4 [[(.v (.int .i64 (n))), (.v (.int .i64 (ps))), (.v (.int .i64 (lps))), (.v (.int .i64 (look)))]] 0]) ∨ (y.1 = .ret ∧ y.2.1.marks = [] ∧ (∃ x : OpI, y.2.2 = [.row 4 [[(.v (.int .i64 (n))), (.v (.int .i64 (ps))), (.v (.int .i64 (lps))), (.v (.int .i64 (look)))]] 0, .row 4 [[(.v (.int .i64 (x.code))), (.v (.int .i64 (x.a))), (.v (.int .i64 (x.b))), (.v (.int .i64 (x.c)))]] 0]) ∧ Ev.look y.2.1.vars 8 = some (.v (.int .i64 (q8s p n ps lps look))))) := by
  have s0 := qpx p c n ps lps look hl 0 qa2 qvw 22 (by decide) rfl (qx9 n ps lps look)
  have s1 := qpx p c n ps lps look hl 1 qas (fun x => qss x n ps) 22 (by decide) rfl (fun x => qs1 n ps lps look x hn hp)
  have s2 := qpx p c n ps lps look hl 2 qaw (q3q lps) 23 (by decide) rfl (quw n ps lps look)
  have s3 := qpx p c n ps lps look hl 3 qay (qnb look) 21 (by decide) rfl (qv7 n ps lps look)
  have last : ∃ y, it1 (exec (evL T) itL none qef) (Ev.qs [0, 33, 34, 35] true 1) ⟨[(0, (.fsl ((p).map OpI.r) c)), (33, (.fsl [[.fn (.func qa2) [(.agg [(.v (.int .i64 (n))), (.v (.int .i64 (ps))), (.v (.int .i64 (lps))), (.v (.int .i64 (look)))])] []], [.fn (.func qas) [(.agg [(.v (.int .i64 (n))), (.v (.int .i64 (ps))), (.v (.int .i64 (lps))), (.v (.int .i64 (look)))])] []], [.fn (.func qaw) [(.agg [(.v (.int .i64 (n))), (.v (.int .i64 (ps))), (.v (.int .i64 (lps))), (.v (.int .i64 (look)))])] []], [.fn (.func qay) [(.agg [(.v (.int .i64 (n))), (.v (.int .i64 (ps))), (.v (.int .i64 (lps))), (.v (.int .i64 (look)))])] []]] true)), (34, (.v (.int .i64 (4)))), (35, (.v (.int .i64 (4))))], []⟩ [.row 4 [[(.v (.int .i64 (n))), (.v (.int .i64 (ps))), (.v (.int .i64 (lps))), (.v (.int .i64 (look)))]] 0] = some (.inr y) ∧ y.1 = .exit 0 ∧ y.2.1.marks = [] ∧ y.2.2 = [.row 4 [[(.v (.int .i64 (n))), (.v (.int .i64 (ps))), (.v (.int .i64 (lps))), (.v (.int .i64 (look)))]] 0] := by
    simp only [qef, Int.lt_irrefl, Ev.exec, Ev.qb, Ev.qe, Ev.qc, Ev.qaf, Ev.Opnd.ev, Ev.Env.get, Ev.Env.set, Ev.look, Ev.qo, ↓Ev.qq, Ev.it1, ↓reduceIte, Nat.reduceEqDiff, reduceCtorEq, decide_false, Bool.false_eq_true, eq_self]
    exact ⟨_, rfl, rfl, rfl, rfl⟩
  unfold q8s
  rcases s0 with ⟨a0, b0⟩ | ⟨a0, y, b0, b1, b2, b3, b4⟩
  · rcases s1 with ⟨a1, c0⟩ | ⟨a1, y, c0, c1, c2, c3, c4⟩
    · rcases s2 with ⟨a2, d0⟩ | ⟨a2, y, d0, d1, d2, d3, d4⟩
      · rcases s3 with ⟨a3, f0⟩ | ⟨a3, y, f0, f1, f2, f3, f4⟩
        · obtain ⟨y, l0, l1, l2, l3⟩ := last
          refine ⟨y, ?_, .inl ⟨by rw [a0, a1, a2, a3]; rfl, l1, l2, l3⟩⟩
          exact qj0 b0 (qj0 c0 (qj0 d0 (qj0 f0 (qmo l0))))
        · refine ⟨y, ?_, .inr ⟨f1, f2, f3, by rw [a0, a1, a2, a3]; exact f4⟩⟩
          exact qj0 b0 (qj0 c0 (qj0 d0 (qmo f0)))
      · refine ⟨y, ?_, .inr ⟨d1, d2, d3, by rw [a0, a1, a2]; exact d4⟩⟩
        exact qj0 b0 (qj0 c0 (qmo d0))
    · refine ⟨y, ?_, .inr ⟨c1, c2, c3, by rw [a0, a1]; exact c4⟩⟩
      exact qj0 b0 (qmo c0)
  · refine ⟨y, ?_, .inr ⟨b1, b2, b3, by rw [a0]; exact b4⟩⟩
    exact qmo b0
end
theorem qwe (p : List OpI) (c : Bool) (ps lps look : Int) (hl62 : p.length < 2 ^ 62) (hp : IntKind.i64.wrap (ps - 1) = ps - 1) : qbk (evL T) qhq [(.fsl ((p).map OpI.r) c), (.v (.int .i64 (ps))), (.v (.int .i64 (lps))), (.v (.int .i64 (look)))] = some (.v (.int .i64 (ql0 p ps lps look))) := by
  have h0 := qew p.length 1 16
  rw [qbk, qu qu3 qt5]
  have hz : ql0 p ps lps look = if 1 ≤ p.length ∧ p.length ≤ 16 then q8s p p.length ps lps look else 22 := by
    unfold ql0 q8s qqo
    by_cases h : 1 ≤ p.length ∧ p.length ≤ 16
    · simp only [h, and_self, decide_true, Bool.true_and, if_true]
    · simp only [h, decide_false, Bool.false_and, if_true, if_false]
  have hw : qcj p.length 1 16 = decide (1 ≤ p.length ∧ p.length ≤ 16) := by
    unfold qcj
    rw [← Bool.decide_and]
    exact decide_eq_decide.2 (by omega)
  rw [hw] at h0
  rw [hz]
  have hrep : List.replicate 4 ([.v .nilFunc] : List AV) = [[.v .nilFunc], [.v .nilFunc], [.v .nilFunc], [.v .nilFunc]] := rfl
  by_cases h : 1 ≤ p.length ∧ p.length ≤ 16
  · have hn : IntKind.i64.wrap ((p.length : Int) - 1) = (p.length : Int) - 1 := qat (by omega) (by omega)
    obtain ⟨⟨y, e, σ⟩, k1, k2⟩ := q2v p c p.length ps lps look h.2 hn hp
    simp only at k2
    simp only [h, and_self, decide_true] at h0
    rcases k2 with ⟨q1, rfl, q2, rfl⟩ | ⟨rfl, q2, ⟨x, rfl⟩, q3⟩
    · simp only [h, and_self, if_true, q1]
      simp only [qhv, hrep, h0, k1, q2, qf4, Ev.qm, Ev.exec, Ev.qb, Ev.qe, Ev.qc, Ev.qa9, Ev.qaf, Ev.evs, Ev.Opnd.ev, Ev.Env.get, Ev.Env.set, Ev.look, Ev.qn, Ev.qi, Ev.qab, Ev.qff, Ev.qjo, Ev.AV.cells, Ev.AV.uc, Ev.qv, Ev.AV.plain, Ev.ql, Ev.qw, Ev.qae, Ev.kill, Ev.qad, Ev.qs, Ev.keep, Ev.qai, Ev.qaa, Ev.qd, Ev.SObj.lo, Ev.qa4, Ev.qbn, Ev.qy, Ev.qde, Ev.qj, Ev.qk, Ev.qac, Ev.qaq, Ev.qal, List.length_map, ↓Ev.qq, ↓Ev.qan, ↓reduceIte, List.length_cons, List.length_nil, List.getElem?_cons_zero, List.take_succ_cons, List.take_zero, List.take_nil, List.drop_succ_cons, List.drop_zero, List.drop_nil, List.cons_append, List.nil_append, List.append_nil, List.set_cons_zero, List.set_cons_succ, Nat.reduceAdd, Nat.reduceEqDiff, Nat.reduceMul, Nat.reduceLT, Nat.reduceLeDiff, Nat.reducePow, Int.cast_ofNat_Int, reduceCtorEq, Bool.and_self, Bool.not_true, Bool.false_eq_true, and_self, ne_eq, not_false_eq_true, List.cons_ne_nil, Nat.zero_add, Nat.lt_add_one, Nat.le_refl, eq_self]
    · simp only [h, and_self, if_true]
      simp only [qhv, hrep, h0, k1, q2, q3, qf4, Ev.qm, Ev.exec, Ev.qb, Ev.qe, Ev.qc, Ev.qa9, Ev.qaf, Ev.evs, Ev.Opnd.ev, Ev.Env.get, Ev.Env.set, Ev.look, Ev.qn, Ev.qi, Ev.qab, Ev.qff, Ev.qjo, Ev.AV.cells, Ev.AV.uc, Ev.qv, Ev.AV.plain, Ev.ql, Ev.qw, Ev.qae, Ev.kill, Ev.qad, Ev.qs, Ev.keep, Ev.qai, Ev.qaa, Ev.qd, Ev.SObj.lo, Ev.qa4, Ev.qbn, Ev.qy, Ev.qde, Ev.qj, Ev.qk, Ev.qac, Ev.qaq, Ev.qal, List.length_map, ↓Ev.qq, ↓Ev.qan, ↓reduceIte, List.length_cons, List.length_nil, List.getElem?_cons_zero, List.take_succ_cons, List.take_zero, List.take_nil, List.drop_succ_cons, List.drop_zero, List.drop_nil, List.cons_append, List.nil_append, List.append_nil, List.set_cons_zero, List.set_cons_succ, Nat.reduceAdd, Nat.reduceEqDiff, Nat.reduceMul, Nat.reduceLT, Nat.reduceLeDiff, Nat.reducePow, Int.cast_ofNat_Int, reduceCtorEq, Bool.and_self, Bool.not_true, Bool.false_eq_true, and_self, ne_eq, not_false_eq_true, List.cons_ne_nil, Nat.zero_add, Nat.lt_add_one, Nat.le_refl, eq_self]
  · simp only [h, decide_false] at h0
    simp only [h, if_false]
    simp only [qhv, h0, Ev.qm, Ev.exec, Ev.qb, Ev.qe, Ev.qc, Ev.qa9, Ev.qaf, Ev.evs, Ev.Opnd.ev, Ev.Env.get, Ev.Env.set, Ev.look, Ev.qn, Ev.ql, Ev.qw, Ev.qae, Ev.kill, Ev.qad, Ev.qd, Ev.qa4, Ev.qj, Ev.qk, Ev.qal, List.length_map, ↓Ev.qq, ↓reduceIte, List.length_cons, List.length_nil, List.take_nil, Nat.reduceAdd, reduceCtorEq, Bool.and_self, Bool.not_false, and_self, Nat.zero_add, eq_self]
set_option maxRecDepth 10000
def qf2 {τ : Type} (g : τ → Int) (l : List τ) : Int := match l.find? (fun x => !decide (g x = 0)) with
  | none => 0
  | some x => g x
theorem qrx {τ : Type} {g : τ → Int} {l : List τ} (h : l.all (fun x => decide (g x = 0)) = true) : qf2 g l = 0 := by
  have : l.find? (fun x => !decide (g x = 0)) = none := by
    rw [List.find?_eq_none]
    intro x hx
    have := List.all_eq_true.1 h x hx
    simpa using this
  unfold qf2; rw [this]
theorem qp2 {τ : Type} {g : τ → Int} {l : List τ} {x : τ} (h : l.find? (fun x => !decide (g x = 0)) = some x) : qf2 g l = g x := by
  unfold qf2; rw [h]
theorem qig (n l m : Int) : qbk (evL T) qeq [(.v (.int .i64 (n))), (.v (.int .i64 (l))), (.v (.int .i64 (m)))] = some (.v (.bool (qcj n l m))) := by
  rw [qbk, qu qu1 qtk]
  by_cases h1 : n ≥ l <;> simp only [qcj, qkr, h1, Ev.qm, Ev.exec, Ev.qb, Ev.qe, Ev.qc, Ev.qaf, Ev.Opnd.ev, Ev.Env.get, Ev.Env.set, Ev.Env.unset, Ev.look, Ev.qn, Ev.qjl, Ev.qbz, Ev.ql, Ev.qw, Ev.qae, Ev.kill, Ev.qad, Ev.qd, Ev.qa4, Ev.qal, ↓Ev.qq, ↓reduceIte, List.length_cons, List.length_nil, List.take_nil, Nat.reduceAdd, Nat.reduceEqDiff, reduceCtorEq, decide_true, decide_false, Bool.true_and, Bool.false_eq_true, and_self, Nat.zero_add, eq_self, Bool.false_and]
theorem qk3 (b : Bool) (e : Int) : qbk (evL T) qfc [(.v (.bool (b))), (.v (.int .i64 (e)))] = some (.v (.int .i64 (okZ b e))) := by
  rw [qbk, qu qto qs4]
  cases b <;> simp only [okZ, qj2, Ev.qm, Ev.exec, Ev.qb, Ev.qe, Ev.qc, Ev.qaf, Ev.Opnd.ev, Ev.Env.get, Ev.Env.set, Ev.look, Ev.qn, Ev.ql, Ev.qw, Ev.qae, Ev.kill, Ev.qad, Ev.qd, Ev.qa4, Ev.qal, ↓Ev.qq, ↓reduceIte, List.length_cons, List.length_nil, List.take_nil, Nat.reduceAdd, Nat.reduceEqDiff, reduceCtorEq, Bool.false_eq_true, and_self, Nat.zero_add, eq_self]
section
variable (k : Nat) (cap : List AV) (hcap : los 0 cap = true)
include hcap
theorem q1z (l : List (List OpI)) (g : List OpI → Int) (hl : l.length < 2 ^ 62) (hf : ∀ p ∈ l, (evL T).call k ((.fsl ((p).map OpI.r) false) :: cap) [] = some ((.v (.int .i64 (g p))), [])) :
    qbk (evL T) qek [(.fsl ((l).map qbu) false), .fn (.func k) [] cap] = some (.v (.int .i64 (qf2 g l))) := by
  have hL : ∃ y, itB (exec (evL T) itL none qeo) (Ev.qs [1, 8, 9, 10] true 0) ⟨[(1, .fn (.func k) [] cap), (8, (.fsl ((l).map qbu) false)), (9, (.v (.int .i64 (l.length)))), (10, (.v (.int .i64 (0))))], []⟩ [] = some y ∧ (l.all (fun x => decide (g x = 0)) = true ∧ (y.1 = .exit 0 ∧ y.2.1.marks = [] ∧ y.2.2 = []) ∨
      l.all (fun x => decide (g x = 0)) = false ∧ ∃ x, l.find? (fun x => !decide (g x = 0)) = some x ∧ (y.1 = .ret ∧ y.2.1.marks = [] ∧ y.2.2 = [] ∧ Ev.look y.2.1.vars 4 = some (.v (.int .i64 (g x))))) := by
    refine qfg l (fun i => ⟨[(1, .fn (.func k) [] cap), (8, (.fsl ((l).map qbu) false)), (9, (.v (.int .i64 (l.length)))), (10, (.v (.int .i64 (i))))], []⟩) [] (fun x => decide (g x = 0)) _ (fun x y => _) ?_ ?_ ?_
    · intro i x hi hx hp
      have hi' : (i : Int) < (l.length : Int) := by omega
      have hw : IntKind.i64.wrap ((i : Int) + 1) = ((i + 1 : Nat) : Int) := by rw [qat (by omega) (by omega)]; simp
      have h1 := hf x (List.mem_of_getElem? hx)
      rw [of_decide_eq_true hp] at h1
      simp only [qeo, Int.natCast_nonneg, Int.toNat_natCast, List.getElem?_map, Option.map_some, hx, hi', hw, h1, hcap, qbh, qbu, Ev.exec, Ev.qb, Ev.qe, Ev.qc, Ev.qhl, Ev.qaf, Ev.evs, Ev.Opnd.ev, Ev.Env.get, Ev.Env.set, Ev.look, Ev.qi, Ev.qab, Ev.qaj, Ev.qbd, Ev.qo, Ev.qs, Ev.keep, Ev.qai, Ev.qaa, Ev.qd, Ev.qa4, Ev.qy, Ev.qde, Ev.qj, ↓Ev.qq, Ev.it1, ↓reduceIte, List.length_cons, List.length_nil, List.take_nil, List.cons_append, List.nil_append, List.head?_cons, Nat.reduceEqDiff, decide_true, decide_false, Bool.and_self, Bool.false_eq_true, and_self, ne_eq, not_true_eq_false, Nat.zero_add, eq_self]
    · intro i x hi hx hp
      have hi' : (i : Int) < (l.length : Int) := by omega
      have h1 := hf x (List.mem_of_getElem? hx)
      have h2 : ¬ g x = 0 := of_decide_eq_false hp
      simp only [qeo, Int.natCast_nonneg, Int.toNat_natCast, List.getElem?_map, Option.map_some, hx, hi', h1, h2, qbu, Ev.exec, Ev.qb, Ev.qe, Ev.qc, Ev.qhl, Ev.qaf, Ev.evs, Ev.Opnd.ev, Ev.Env.get, Ev.Env.set, Ev.look, Ev.qi, Ev.qab, Ev.qbd, Ev.qo, ↓Ev.qq, Ev.it1, ↓reduceIte, List.length_cons, List.length_nil, List.cons_append, List.nil_append, List.head?_cons, Nat.reduceEqDiff, decide_true, Bool.false_eq_true, ne_eq, not_false_eq_true, Nat.zero_add, eq_self]
      exact ⟨_, rfl, rfl, rfl, rfl, rfl⟩
    · simp only [qeo, Int.lt_irrefl, Ev.exec, Ev.qb, Ev.qe, Ev.qc, Ev.qaf, Ev.Opnd.ev, Ev.Env.get, Ev.Env.set, Ev.look, Ev.qo, ↓Ev.qq, Ev.it1, ↓reduceIte, Nat.reduceEqDiff, decide_false, Bool.false_eq_true, eq_self]
      exact ⟨_, rfl, rfl, rfl, rfl⟩
  obtain ⟨⟨y, e, σ⟩, k1, k2⟩ := hL
  simp only at k2
  rw [qbk, qu qpq qop]
  rcases k2 with ⟨k3, rfl, k4, rfl⟩ | ⟨k3, x, k5, rfl, k4, rfl, k6⟩
  · rw [qrx k3]
    simp only [qfj, k1, k4, hcap, qbh, Ev.qm, Ev.exec, Ev.qb, Ev.qe, Ev.qc, Ev.qaf, Ev.Opnd.ev, Ev.Env.get, Ev.Env.set, Ev.look, Ev.qn, Ev.ql, Ev.qw, Ev.qae, Ev.kill, Ev.qad, Ev.qs, Ev.keep, Ev.qai, Ev.qaa, Ev.qd, Ev.qa4, Ev.qy, Ev.qde, Ev.qj, Ev.qal, List.length_map, ↓Ev.qq, ↓Ev.qan, ↓reduceIte, List.length_cons, List.length_nil, List.take_nil, Nat.reduceAdd, Nat.reduceEqDiff, reduceCtorEq, Bool.and_self, and_self, Nat.zero_add, eq_self]
  · rw [qp2 k5]
    simp only [qfj, k1, k4, k6, hcap, qbh, Ev.qm, Ev.exec, Ev.qb, Ev.qe, Ev.qc, Ev.qaf, Ev.Opnd.ev, Ev.Env.get, Ev.Env.set, Ev.look, Ev.qn, Ev.ql, Ev.qw, Ev.qae, Ev.kill, Ev.qad, Ev.qs, Ev.keep, Ev.qai, Ev.qaa, Ev.qd, Ev.qa4, Ev.qy, Ev.qde, Ev.qj, Ev.qal, List.length_map, ↓Ev.qq, ↓Ev.qan, ↓reduceIte, List.length_cons, List.length_nil, List.take_nil, Nat.reduceAdd, Nat.reduceEqDiff, reduceCtorEq, Bool.and_self, and_self, Nat.zero_add, eq_self]
theorem qyj (l : List (List Start)) (g : List Start → Int) (hl : l.length < 2 ^ 62) (hf : ∀ p ∈ l, (evL T).call k ((.fsl ((p).map Start.r) false) :: cap) [] = some ((.v (.int .i64 (g p))), [])) :
    qbk (evL T) qds [(.fsl ((l).map lpC) false), .fn (.func k) [] cap] = some (.v (.int .i64 (qf2 g l))) := by
  have hL : ∃ y, itB (exec (evL T) itL none qdz) (Ev.qs [1, 8, 9, 10] true 0) ⟨[(1, .fn (.func k) [] cap), (8, (.fsl ((l).map lpC) false)), (9, (.v (.int .i64 (l.length)))), (10, (.v (.int .i64 (0))))], []⟩ [] = some y ∧ (l.all (fun x => decide (g x = 0)) = true ∧ (y.1 = .exit 0 ∧ y.2.1.marks = [] ∧ y.2.2 = []) ∨
      l.all (fun x => decide (g x = 0)) = false ∧ ∃ x, l.find? (fun x => !decide (g x = 0)) = some x ∧ (y.1 = .ret ∧ y.2.1.marks = [] ∧ y.2.2 = [] ∧ Ev.look y.2.1.vars 4 = some (.v (.int .i64 (g x))))) := by
    refine qfg l (fun i => ⟨[(1, .fn (.func k) [] cap), (8, (.fsl ((l).map lpC) false)), (9, (.v (.int .i64 (l.length)))), (10, (.v (.int .i64 (i))))], []⟩) [] (fun x => decide (g x = 0)) _ (fun x y => _) ?_ ?_ ?_
    · intro i x hi hx hp
      have hi' : (i : Int) < (l.length : Int) := by omega
      have hw : IntKind.i64.wrap ((i : Int) + 1) = ((i + 1 : Nat) : Int) := by rw [qat (by omega) (by omega)]; simp
      have h1 := hf x (List.mem_of_getElem? hx)
      rw [of_decide_eq_true hp] at h1
      simp only [qdz, Int.natCast_nonneg, Int.toNat_natCast, List.getElem?_map, Option.map_some, hx, hi', hw, h1, hcap, qcg, lpC, Ev.exec, Ev.qb, Ev.qe, Ev.qc, Ev.qhl, Ev.qaf, Ev.evs, Ev.Opnd.ev, Ev.Env.get, Ev.Env.set, Ev.look, Ev.qi, Ev.qab, Ev.qaj, Ev.qbd, Ev.qo, Ev.qs, Ev.keep, Ev.qai, Ev.qaa, Ev.qd, Ev.qa4, Ev.qy, Ev.qde, Ev.qj, ↓Ev.qq, Ev.it1, ↓reduceIte, List.length_cons, List.length_nil, List.take_nil, List.cons_append, List.nil_append, List.head?_cons, Nat.reduceEqDiff, decide_true, decide_false, Bool.and_self, Bool.false_eq_true, and_self, ne_eq, not_true_eq_false, Nat.zero_add, eq_self]
    · intro i x hi hx hp
      have hi' : (i : Int) < (l.length : Int) := by omega
      have h1 := hf x (List.mem_of_getElem? hx)
      have h2 : ¬ g x = 0 := of_decide_eq_false hp
      simp only [qdz, Int.natCast_nonneg, Int.toNat_natCast, List.getElem?_map, Option.map_some, hx, hi', h1, h2, lpC, Ev.exec, Ev.qb, Ev.qe, Ev.qc, Ev.qhl, Ev.qaf, Ev.evs, Ev.Opnd.ev, Ev.Env.get, Ev.Env.set, Ev.look, Ev.qi, Ev.qab, Ev.qbd, Ev.qo, ↓Ev.qq, Ev.it1, ↓reduceIte, List.length_cons, List.length_nil, List.cons_append, List.nil_append, List.head?_cons, Nat.reduceEqDiff, decide_true, Bool.false_eq_true, ne_eq, not_false_eq_true, Nat.zero_add, eq_self]
      exact ⟨_, rfl, rfl, rfl, rfl, rfl⟩
    · simp only [qdz, Int.lt_irrefl, Ev.exec, Ev.qb, Ev.qe, Ev.qc, Ev.qaf, Ev.Opnd.ev, Ev.Env.get, Ev.Env.set, Ev.look, Ev.qo, ↓Ev.qq, Ev.it1, ↓reduceIte, Nat.reduceEqDiff, decide_false, Bool.false_eq_true, eq_self]
      exact ⟨_, rfl, rfl, rfl, rfl⟩
  obtain ⟨⟨y, e, σ⟩, k1, k2⟩ := hL
  simp only at k2
  rw [qbk, qu qna ql7]
  rcases k2 with ⟨k3, rfl, k4, rfl⟩ | ⟨k3, x, k5, rfl, k4, rfl, k6⟩
  · rw [qrx k3]
    simp only [qem, k1, k4, hcap, qcg, Ev.qm, Ev.exec, Ev.qb, Ev.qe, Ev.qc, Ev.qaf, Ev.Opnd.ev, Ev.Env.get, Ev.Env.set, Ev.look, Ev.qn, Ev.ql, Ev.qw, Ev.qae, Ev.kill, Ev.qad, Ev.qs, Ev.keep, Ev.qai, Ev.qaa, Ev.qd, Ev.qa4, Ev.qy, Ev.qde, Ev.qj, Ev.qal, List.length_map, ↓Ev.qq, ↓Ev.qan, ↓reduceIte, List.length_cons, List.length_nil, List.take_nil, Nat.reduceAdd, Nat.reduceEqDiff, reduceCtorEq, Bool.and_self, and_self, Nat.zero_add, eq_self]
  · rw [qp2 k5]
    simp only [qem, k1, k4, k6, hcap, qcg, Ev.qm, Ev.exec, Ev.qb, Ev.qe, Ev.qc, Ev.qaf, Ev.Opnd.ev, Ev.Env.get, Ev.Env.set, Ev.look, Ev.qn, Ev.ql, Ev.qw, Ev.qae, Ev.kill, Ev.qad, Ev.qs, Ev.keep, Ev.qai, Ev.qaa, Ev.qd, Ev.qa4, Ev.qy, Ev.qde, Ev.qj, Ev.qal, List.length_map, ↓Ev.qq, ↓Ev.qan, ↓reduceIte, List.length_cons, List.length_nil, List.take_nil, Nat.reduceAdd, Nat.reduceEqDiff, reduceCtorEq, Bool.and_self, and_self, Nat.zero_add, eq_self]
theorem q0a (l : List Start) (g : Start → Int) (hl : l.length < 2 ^ 62) (hf : ∀ x ∈ l, (evL T).call k (.agg [(.v (.int .i64 (x.prog))), (.v (.int .i64 (x.time)))] :: cap) [.row 2 [[(.v (.int .i64 (x.prog))), (.v (.int .i64 (x.time)))]] 0] = some ((.v (.int .i64 (g x))), [.row 2 [[(.v (.int .i64 (x.prog))), (.v (.int .i64 (x.time)))]] 0])) :
    qbk (evL T) qd3 [(.fsl ((l).map Start.r) false), .fn (.func k) [] cap] = some (.v (.int .i64 (qf2 g l))) := by
  have hL : ∃ y, itB (exec (evL T) itL none qd6) (Ev.qs [1, 8, 9, 10] true 0) ⟨[(1, .fn (.func k) [] cap), (8, (.fsl ((l).map Start.r) false)), (9, (.v (.int .i64 (l.length)))), (10, (.v (.int .i64 (0))))], []⟩ [] = some y ∧ (l.all (fun x => decide (g x = 0)) = true ∧ (y.1 = .exit 0 ∧ y.2.1.marks = [] ∧ y.2.2 = []) ∨
      l.all (fun x => decide (g x = 0)) = false ∧ ∃ x, l.find? (fun x => !decide (g x = 0)) = some x ∧ (y.1 = .ret ∧ y.2.1.marks = [] ∧ y.2.2 = [.row 2 [[(.v (.int .i64 (x.prog))), (.v (.int .i64 (x.time)))]] 0] ∧ Ev.look y.2.1.vars 4 = some (.v (.int .i64 (g x))))) := by
    refine qfg l (fun i => ⟨[(1, .fn (.func k) [] cap), (8, (.fsl ((l).map Start.r) false)), (9, (.v (.int .i64 (l.length)))), (10, (.v (.int .i64 (i))))], []⟩) [] (fun x => decide (g x = 0)) _ (fun x y => _) ?_ ?_ ?_
    · intro i x hi hx hp
      have hi' : (i : Int) < (l.length : Int) := by omega
      have hw : IntKind.i64.wrap ((i : Int) + 1) = ((i + 1 : Nat) : Int) := by rw [qat (by omega) (by omega)]; simp
      have h1 := hf x (List.mem_of_getElem? hx)
      rw [of_decide_eq_true hp] at h1
      simp only [qd6, Int.natCast_nonneg, Int.toNat_natCast, List.getElem?_map, Option.map_some, hx, hi', hw, h1, hcap, qnd, Start.r, Ev.exec, Ev.qb, Ev.qe, Ev.qc, Ev.qhl, Ev.qaf, Ev.evs, Ev.Opnd.ev, Ev.Env.get, Ev.Env.set, Ev.look, Ev.qi, Ev.qab, Ev.AV.cells, Ev.qv, Ev.AV.plain, Ev.qaj, Ev.qbd, Ev.qo, Ev.qs, Ev.keep, Ev.qai, Ev.qaa, Ev.qd, Ev.qa4, Ev.qy, Ev.qde, Ev.qj, ↓Ev.qq, Ev.it1, ↓reduceIte, List.length_cons, List.length_nil, List.getElem?_cons_zero, List.take_succ_cons, List.take_zero, List.take_nil, List.drop_succ_cons, List.drop_zero, List.drop_nil, List.cons_append, List.nil_append, List.append_nil, List.set_cons_zero, Nat.reduceAdd, Nat.reduceEqDiff, decide_true, decide_false, Bool.and_self, Bool.false_eq_true, and_self, ne_eq, not_false_eq_true, not_true_eq_false, List.cons_ne_nil, Nat.zero_add, Nat.le_refl, eq_self]
    · intro i x hi hx hp
      have hi' : (i : Int) < (l.length : Int) := by omega
      have h1 := hf x (List.mem_of_getElem? hx)
      have h2 : ¬ g x = 0 := of_decide_eq_false hp
      simp only [qd6, Int.natCast_nonneg, Int.toNat_natCast, List.getElem?_map, Option.map_some, hx, hi', h1, h2, Start.r, Ev.exec, Ev.qb, Ev.qe, Ev.qc, Ev.qhl, Ev.qaf, Ev.evs, Ev.Opnd.ev, Ev.Env.get, Ev.Env.set, Ev.look, Ev.qi, Ev.qab, Ev.AV.cells, Ev.qv, Ev.AV.plain, Ev.qbd, Ev.qo, ↓Ev.qq, Ev.it1, ↓reduceIte, List.length_cons, List.length_nil, List.getElem?_cons_zero, List.take_succ_cons, List.take_zero, List.take_nil, List.drop_succ_cons, List.drop_zero, List.drop_nil, List.cons_append, List.nil_append, List.append_nil, List.set_cons_zero, Nat.reduceAdd, Nat.reduceEqDiff, decide_true, Bool.and_self, and_self, ne_eq, not_false_eq_true, List.cons_ne_nil, Nat.zero_add, Nat.le_refl, eq_self]
      exact ⟨_, rfl, rfl, rfl, rfl, rfl⟩
    · simp only [qd6, Int.lt_irrefl, Ev.exec, Ev.qb, Ev.qe, Ev.qc, Ev.qaf, Ev.Opnd.ev, Ev.Env.get, Ev.Env.set, Ev.look, Ev.qo, ↓Ev.qq, Ev.it1, ↓reduceIte, Nat.reduceEqDiff, decide_false, Bool.false_eq_true, eq_self]
      exact ⟨_, rfl, rfl, rfl, rfl⟩
  obtain ⟨⟨y, e, σ⟩, k1, k2⟩ := hL
  simp only at k2
  rw [qbk, qu qn2 qmy]
  rcases k2 with ⟨k3, rfl, k4, rfl⟩ | ⟨k3, x, k5, rfl, k4, rfl, k6⟩
  · rw [qrx k3]
    simp only [qe1, k1, k4, hcap, qnd, Ev.qm, Ev.exec, Ev.qb, Ev.qe, Ev.qc, Ev.qaf, Ev.Opnd.ev, Ev.Env.get, Ev.Env.set, Ev.look, Ev.qn, Ev.ql, Ev.qw, Ev.qae, Ev.kill, Ev.qad, Ev.qs, Ev.keep, Ev.qai, Ev.qaa, Ev.qd, Ev.qa4, Ev.qy, Ev.qde, Ev.qj, Ev.qal, List.length_map, ↓Ev.qq, ↓Ev.qan, ↓reduceIte, List.length_cons, List.length_nil, List.take_nil, Nat.reduceAdd, Nat.reduceEqDiff, reduceCtorEq, Bool.and_self, and_self, Nat.zero_add, eq_self]
  · rw [qp2 k5]
    simp only [qe1, k1, k4, k6, hcap, qnd, Ev.qm, Ev.exec, Ev.qb, Ev.qe, Ev.qc, Ev.qaf, Ev.Opnd.ev, Ev.Env.get, Ev.Env.set, Ev.look, Ev.qn, Ev.ql, Ev.qw, Ev.qae, Ev.kill, Ev.qad, Ev.qs, Ev.keep, Ev.qai, Ev.qaa, Ev.qd, Ev.qa4, Ev.qy, Ev.qde, Ev.qj, Ev.qal, List.length_map, ↓Ev.qq, ↓Ev.qan, ↓reduceIte, List.length_cons, List.length_nil, List.take_zero, List.take_nil, Nat.reduceAdd, Nat.reduceEqDiff, reduceCtorEq, Bool.and_self, and_self, Nat.zero_add, eq_self]
end
set_option maxRecDepth 10000
section
variable (c : Cfg)
def q2y (c : Cfg) : Bool := qcj c.lps.length 1 8 && (decide ((c.progs.length : Int) ≤ 8) && (qcj c.cap 1 64 && qcj c.fin 0 1152921504606846976))
def lenB (l : List Start) : Bool := decide ((l.length : Int) ≤ 8)
def qqn (c : Cfg) : Bool := q2y c && c.lps.all lenB
structure CfgOk (c : Cfg) : Prop where
  lps : c.lps.length < 2 ^ 62
  progs : c.progs.length < 2 ^ 62
  prog : ∀ p ∈ c.progs, p.length < 2 ^ 62
  lp : ∀ l ∈ c.lps, l.length < 2 ^ 62
theorem q6o (h : CfgOk c) (b : Bool) :
    ∃ y, itB (exec (evL T) itL none qel) (Ev.qs [3, 32, 33, 34] true 0) ⟨[(3, (.v (.bool (b)))), (32, (.fsl ((c.lps).map lpC) false)), (33, (.v (.int .i64 (c.lps.length)))), (34, (.v (.int .i64 (0))))], []⟩ [] = some y ∧ y.1 = .exit 0 ∧ y.2.1.marks = [] ∧ y.2.2 = [] ∧ Ev.look y.2.1.vars 3 = some (.v (.bool (b && c.lps.all lenB))) := by
  have hlp := h.lps
  have := qjm (f := exec (evL T) itL none qel) (s := Ev.qs [3, 32, 33, 34] true 0) (α := Bool) (fun i b => ⟨[(3, (.v (.bool (b)))), (32, (.fsl ((c.lps).map lpC) false)), (33, (.v (.int .i64 (c.lps.length)))), (34, (.v (.int .i64 ((i : Int)))))], []⟩) (fun _ _ => [])
    (fun i r => r = (b && (c.lps.take i).all lenB)) c.lps.length (fun y => y.1 = .exit 0 ∧ y.2.1.marks = [] ∧ y.2.2 = [] ∧ Ev.look y.2.1.vars 3 = some (.v (.bool (b && c.lps.all lenB)))) ?_ ?_ 0 b (Nat.zero_le _) (by simp)
  · exact this
  · rintro i r hi hr
    obtain ⟨x, hx⟩ : ∃ x, c.lps[i]? = some x := ⟨_, List.getElem?_eq_getElem hi⟩
    have hi' : (i : Int) < (c.lps.length : Int) := by omega
    have hw : IntKind.i64.wrap ((i : Int) + 1) = ((i + 1 : Nat) : Int) := by rw [qat (by omega) (by omega)]; simp
    have hn : (b && (c.lps.take (i + 1)).all lenB) = (r && lenB x) := by rw [hr, qer hx, List.all_append, ← Bool.and_assoc]; simp
    refine .inl ⟨r && lenB x, ?_, hn.symm⟩
    cases r <;> simp only [qel, Int.natCast_nonneg, Int.toNat_natCast, List.getElem?_map, Option.map_some, hx, hi', hw, qcg, lpC, lenB, Ev.exec, Ev.qb, Ev.qe, Ev.qc, Ev.qaf, Ev.Opnd.ev, Ev.Env.get, Ev.Env.set, Ev.Env.unset, Ev.look, Ev.qi, Ev.qab, Ev.qaj, Ev.qo, Ev.qjl, Ev.qs, Ev.keep, Ev.qai, Ev.qaa, Ev.qd, Ev.qa4, Ev.qy, List.length_map, ↓Ev.qq, Ev.it1, ↓reduceIte, List.length_cons, List.length_nil, List.take_nil, List.head?_cons, Nat.reduceEqDiff, decide_true, Bool.and_self, Bool.true_and, Bool.false_eq_true, and_self, Nat.zero_add, eq_self, Bool.false_and]
  · rintro r hr
    rw [List.take_length] at hr
    simp only [qel, Int.lt_irrefl, Ev.exec, Ev.qb, Ev.qe, Ev.qc, Ev.qaf, Ev.Opnd.ev, Ev.Env.get, Ev.Env.set, Ev.look, Ev.qo, ↓Ev.qq, Ev.it1, ↓reduceIte, Nat.reduceEqDiff, decide_false, Bool.false_eq_true, eq_self]
    exact ⟨_, rfl, rfl, rfl, rfl, by rw [← hr]; rfl⟩
theorem qvu (h : CfgOk c) : (evL T).call qdy [(.agg [(.fsl ((c.lps).map lpC) false), (.fsl ((c.progs).map qbu) false), (.v (.int .i64 (c.look))), (.v (.int .i64 (c.fin))), (.v (.int .i64 (c.cap)))])] [] = some ((.v (.int .i64 (okZ (qqn c) 1))), []) := by
  obtain ⟨⟨y, e, σ⟩, k1, k2, k3, k4, k5⟩ := q6o c h (q2y c)
  simp only at k2 k3 k4 k5
  subst k2; subst k4
  have v := qk3 (qqn c) 1
  rw [show qqn c = (q2y c && c.lps.all lenB) from rfl] at v ⊢
  rw [qu qo8 qoe]
  unfold q2y at k1 k5 v ⊢
  cases h1 : qcj c.lps.length 1 8 <;> simp only [h1, Bool.false_and, Bool.true_and] at k1 k5 v ⊢
  · simp only [qdw, qig, h1, k1, k3, k5, v, qcg, okZ, Ev.qm, Ev.exec, Ev.qb, Ev.qe, Ev.qc, Ev.qa9, Ev.qaf, Ev.evs, Ev.Opnd.ev, Ev.Env.get, Ev.Env.set, Ev.Env.unset, Ev.look, Ev.qn, Ev.qi, Ev.qab, Ev.AV.cells, Ev.qv, Ev.AV.plain, Ev.ql, Ev.qw, Ev.qae, Ev.kill, Ev.qad, Ev.qs, Ev.keep, Ev.qai, Ev.qaa, Ev.qd, Ev.qa4, Ev.qy, Ev.qj, Ev.qk, List.length_map, ↓Ev.qq, ↓Ev.qan, ↓reduceIte, List.length_cons, List.length_nil, List.take_nil, List.drop_zero, List.head?_cons, Nat.reduceEqDiff, Bool.and_self, Bool.false_eq_true, and_self, ne_eq, not_false_eq_true, List.cons_ne_nil, Nat.zero_add, eq_self]
  by_cases h2 : (c.progs.length : Int) ≤ 8 <;> simp only [h2, decide_true, decide_false, Bool.false_and, Bool.true_and] at k1 k5 v ⊢
  · cases h3 : qcj c.cap 1 64 <;> simp only [h3, Bool.false_and, Bool.true_and] at k1 k5 v ⊢
    · simp only [qdw, qig, h1, h2, h3, k1, k3, k5, v, qcg, okZ, Ev.qm, Ev.exec, Ev.qb, Ev.qe, Ev.qc, Ev.qa9, Ev.qaf, Ev.evs, Ev.Opnd.ev, Ev.Env.get, Ev.Env.set, Ev.Env.unset, Ev.look, Ev.qn, Ev.qi, Ev.qab, Ev.AV.cells, Ev.qv, Ev.AV.plain, Ev.qjl, Ev.ql, Ev.qw, Ev.qae, Ev.kill, Ev.qad, Ev.qs, Ev.keep, Ev.qai, Ev.qaa, Ev.qd, Ev.qa4, Ev.qy, Ev.qj, Ev.qk, List.length_map, ↓Ev.qq, ↓Ev.qan, ↓reduceIte, List.length_cons, List.length_nil, List.take_nil, List.drop_succ_cons, List.drop_zero, List.head?_cons, Nat.reduceEqDiff, decide_true, Bool.and_self, Bool.false_eq_true, and_self, ne_eq, not_false_eq_true, List.cons_ne_nil, Nat.zero_add, eq_self]
    · simp only [qdw, qig, h1, h2, h3, k1, k3, k5, v, qcg, okZ, Ev.qm, Ev.exec, Ev.qb, Ev.qe, Ev.qc, Ev.qa9, Ev.qaf, Ev.evs, Ev.Opnd.ev, Ev.Env.get, Ev.Env.set, Ev.look, Ev.qn, Ev.qi, Ev.qab, Ev.AV.cells, Ev.qv, Ev.AV.plain, Ev.qjl, Ev.ql, Ev.qw, Ev.qae, Ev.kill, Ev.qad, Ev.qs, Ev.keep, Ev.qai, Ev.qaa, Ev.qd, Ev.qa4, Ev.qy, Ev.qj, Ev.qk, List.length_map, ↓Ev.qq, ↓Ev.qan, ↓reduceIte, List.length_cons, List.length_nil, List.take_nil, List.drop_succ_cons, List.drop_zero, List.head?_cons, Nat.reduceEqDiff, decide_true, Bool.and_self, Bool.false_eq_true, and_self, ne_eq, not_false_eq_true, List.cons_ne_nil, Nat.zero_add, eq_self]
  · simp only [qdw, qig, h1, h2, k1, k3, k5, v, qcg, okZ, Ev.qm, Ev.exec, Ev.qb, Ev.qe, Ev.qc, Ev.qa9, Ev.qaf, Ev.evs, Ev.Opnd.ev, Ev.Env.get, Ev.Env.set, Ev.Env.unset, Ev.look, Ev.qn, Ev.qi, Ev.qab, Ev.AV.cells, Ev.qv, Ev.AV.plain, Ev.qjl, Ev.ql, Ev.qw, Ev.qae, Ev.kill, Ev.qad, Ev.qs, Ev.keep, Ev.qai, Ev.qaa, Ev.qd, Ev.qa4, Ev.qy, Ev.qj, Ev.qk, List.length_map, ↓Ev.qq, ↓Ev.qan, ↓reduceIte, List.length_cons, List.length_nil, List.take_nil, List.drop_succ_cons, List.drop_zero, List.head?_cons, Nat.reduceEqDiff, decide_false, Bool.and_self, Bool.false_eq_true, and_self, ne_eq, not_false_eq_true, List.cons_ne_nil, Nat.zero_add, eq_self]
theorem qr9 : (evL T).call qcw [(.agg [(.fsl ((c.lps).map lpC) false), (.fsl ((c.progs).map qbu) false), (.v (.int .i64 (c.look))), (.v (.int .i64 (c.fin))), (.v (.int .i64 (c.cap)))])] [] = some ((.v (.int .i64 (okZ (decide (c.look ≥ 1)) 20))), []) := by
  rw [qu ql9 qlo]
  have v := qk3 (decide (c.look ≥ 1)) 20
  simp only [qfh, v, Ev.qm, Ev.exec, Ev.qb, Ev.qe, Ev.qc, Ev.qa9, Ev.qaf, Ev.evs, Ev.Opnd.ev, Ev.Env.get, Ev.Env.set, Ev.look, Ev.qn, Ev.qi, Ev.qab, Ev.AV.cells, Ev.qv, Ev.AV.plain, Ev.qbz, Ev.ql, Ev.qw, Ev.qae, Ev.kill, Ev.qad, Ev.qd, Ev.qa4, Ev.qj, Ev.qk, ↓Ev.qq, ↓reduceIte, List.length_cons, List.length_nil, List.take_nil, List.drop_succ_cons, List.drop_zero, List.head?_cons, Nat.reduceEqDiff, Bool.and_self, Bool.false_eq_true, and_self, ne_eq, not_false_eq_true, List.cons_ne_nil, Nat.zero_add, eq_self]
def qyu (c : Cfg) (p : List OpI) : Int := ql0 p c.progs.length c.lps.length c.look
theorem q1o (h : CfgOk c) (p : List OpI) (hp : p ∈ c.progs) : (evL T).call qcn [(.fsl ((p).map OpI.r) false), (.fptr [(.fsl ((c.lps).map lpC) false), (.fsl ((c.progs).map qbu) false), (.v (.int .i64 (c.look))), (.v (.int .i64 (c.fin))), (.v (.int .i64 (c.cap)))])] [] = some ((.v (.int .i64 (qyu c p))), []) := by
  rw [qu qlz qlh]
  have := h.progs
  have v := qwe p false c.progs.length c.lps.length c.look (h.prog p hp) (qat (by omega) (by omega))
  simp only [qfa, v, qyu, qf4, Ev.qm, Ev.exec, Ev.qb, Ev.qe, Ev.qc, Ev.qa9, Ev.qaf, Ev.evs, Ev.Opnd.ev, Ev.Env.get, Ev.Env.set, Ev.look, Ev.qn, Ev.qi, Ev.qab, Ev.ql, Ev.qw, Ev.qae, Ev.kill, Ev.qad, Ev.qd, Ev.qa4, Ev.qy, Ev.qj, Ev.qk, List.length_map, ↓Ev.qq, ↓reduceIte, List.length_cons, List.length_nil, List.take_nil, List.drop_succ_cons, List.drop_zero, List.head?_cons, Nat.reduceAdd, Nat.reduceEqDiff, reduceCtorEq, Bool.and_self, Bool.false_eq_true, and_self, Nat.zero_add, eq_self]
theorem qsp (h : CfgOk c) : (evL T).call qc7 [(.agg [(.fsl ((c.lps).map lpC) false), (.fsl ((c.progs).map qbu) false), (.v (.int .i64 (c.look))), (.v (.int .i64 (c.fin))), (.v (.int .i64 (c.cap)))])] [] = some ((.v (.int .i64 (qf2 (qyu c) c.progs))), []) := by
  have v := q1z qcn [(.fptr [(.fsl ((c.lps).map lpC) false), (.fsl ((c.progs).map qbu) false), (.v (.int .i64 (c.look))), (.v (.int .i64 (c.fin))), (.v (.int .i64 (c.cap)))])] (by simp only [qcg, qbh, Ev.qa4, Ev.qy, Ev.qdf, Ev.qj, Ev.qk, Bool.and_self, eq_self]) c.progs (qyu c) h.progs fun p hp => q1o c h p hp
  rw [qu qm6 qmg]
  simp only [qft, v, qcg, qbh, Ev.qm, Ev.exec, Ev.qb, Ev.qe, Ev.qc, Ev.qa9, Ev.qaf, Ev.evs, Ev.Opnd.ev, Ev.Env.get, Ev.Env.set, Ev.look, Ev.qn, Ev.qi, Ev.qab, Ev.AV.cells, Ev.qv, Ev.AV.plain, Ev.ql, Ev.qw, Ev.qae, Ev.kill, Ev.qad, Ev.qd, Ev.qa4, Ev.qy, Ev.qdf, Ev.qde, Ev.qj, Ev.qk, ↓Ev.qq, ↓reduceIte, List.length_cons, List.length_nil, List.take_nil, List.drop_succ_cons, List.drop_zero, List.head?_cons, Nat.reduceEqDiff, Bool.and_self, Bool.false_eq_true, and_self, ne_eq, not_false_eq_true, List.cons_ne_nil, Nat.zero_add, eq_self]
def qo3 (c : Cfg) (s : Start) : Int := if qcj s.prog 0 ((c.progs.length : Int) - 1) = false then 22 else okZ (qcj s.time 0 1152921504606846976) 11
theorem q1n (h : CfgOk c) (s : Start) : (evL T).call qco [.agg [(.v (.int .i64 (s.prog))), (.v (.int .i64 (s.time)))], (.fptr [(.fsl ((c.lps).map lpC) false), (.fsl ((c.progs).map qbu) false), (.v (.int .i64 (c.look))), (.v (.int .i64 (c.fin))), (.v (.int .i64 (c.cap)))])] [.row 2 [[(.v (.int .i64 (s.prog))), (.v (.int .i64 (s.time)))]] 0] = some ((.v (.int .i64 (qo3 c s))), [.row 2 [[(.v (.int .i64 (s.prog))), (.v (.int .i64 (s.time)))]] 0]) := by
  rw [qu qlp qlk]
  have := h.progs
  have hw : IntKind.i64.wrap ((c.progs.length : Int) - 1) = (c.progs.length : Int) - 1 := qat (by omega) (by omega)
  have v := qk3 (qcj s.time 0 1152921504606846976) 11
  cases h1 : qcj s.prog 0 ((c.progs.length : Int) - 1) <;> simp only [qe8, qig, v, hw, h1, qo3, Ev.qm, Ev.exec, Ev.qb, Ev.qe, Ev.qc, Ev.qa9, Ev.qaf, Ev.evs, Ev.Opnd.ev, Ev.Env.get, Ev.Env.set, Ev.look, Ev.qn, Ev.qi, Ev.qab, Ev.AV.cells, Ev.qv, Ev.AV.plain, Ev.qce, Ev.ql, Ev.qw, Ev.qae, Ev.kill, Ev.qad, Ev.qd, Ev.SObj.lo, Ev.qa4, Ev.qj, Ev.qk, Ev.qac, Ev.qaq, List.length_map, ↓Ev.qq, ↓reduceIte, List.length_cons, List.length_nil, List.take_succ_cons, List.take_nil, List.drop_succ_cons, List.drop_zero, List.head?_cons, Nat.reduceAdd, Nat.reduceEqDiff, reduceCtorEq, Bool.and_self, Bool.not_true, Bool.not_false, Bool.false_eq_true, Bool.true_eq_false, and_self, ne_eq, not_false_eq_true, List.cons_ne_nil, Nat.zero_add, eq_self]
theorem q4c (h : CfgOk c) (l : List Start) (hl : l ∈ c.lps) : (evL T).call qc6 [(.fsl ((l).map Start.r) false), (.fptr [(.fsl ((c.lps).map lpC) false), (.fsl ((c.progs).map qbu) false), (.v (.int .i64 (c.look))), (.v (.int .i64 (c.fin))), (.v (.int .i64 (c.cap)))])] [] = some ((.v (.int .i64 (qf2 (qo3 c) l))), []) := by
  have v := q0a qco [(.fptr [(.fsl ((c.lps).map lpC) false), (.fsl ((c.progs).map qbu) false), (.v (.int .i64 (c.look))), (.v (.int .i64 (c.fin))), (.v (.int .i64 (c.cap)))])] (by simp only [qcg, qbh, Ev.qa4, Ev.qy, Ev.qdf, Ev.qj, Ev.qk, Bool.and_self, eq_self]) l (qo3 c) (h.lp l hl) fun s _ => q1n c h s
  rw [qu qm8 qmb]
  simp only [qfs, v, qnd, qcg, qbh, Ev.qm, Ev.exec, Ev.qb, Ev.qe, Ev.qc, Ev.qa9, Ev.qaf, Ev.evs, Ev.Opnd.ev, Ev.Env.get, Ev.Env.set, Ev.look, Ev.qn, Ev.ql, Ev.qw, Ev.qae, Ev.kill, Ev.qad, Ev.qd, Ev.qa4, Ev.qy, Ev.qdf, Ev.qde, Ev.qj, Ev.qk, ↓Ev.qq, ↓reduceIte, List.length_cons, List.length_nil, List.take_nil, Nat.reduceAdd, Nat.reduceEqDiff, reduceCtorEq, Bool.and_self, and_self, Nat.zero_add, eq_self]
theorem qub (h : CfgOk c) : (evL T).call qdk [(.agg [(.fsl ((c.lps).map lpC) false), (.fsl ((c.progs).map qbu) false), (.v (.int .i64 (c.look))), (.v (.int .i64 (c.fin))), (.v (.int .i64 (c.cap)))])] [] = some ((.v (.int .i64 (qf2 (qf2 (qo3 c)) c.lps))), []) := by
  have v := qyj qc6 [(.fptr [(.fsl ((c.lps).map lpC) false), (.fsl ((c.progs).map qbu) false), (.v (.int .i64 (c.look))), (.v (.int .i64 (c.fin))), (.v (.int .i64 (c.cap)))])] (by simp only [qcg, qbh, Ev.qa4, Ev.qy, Ev.qdf, Ev.qj, Ev.qk, Bool.and_self, eq_self]) c.lps (qf2 (qo3 c)) h.lps fun l hl => q4c c h l hl
  rw [qu qov qnp]
  simp only [qga, v, qcg, qbh, Ev.qm, Ev.exec, Ev.qb, Ev.qe, Ev.qc, Ev.qa9, Ev.qaf, Ev.evs, Ev.Opnd.ev, Ev.Env.get, Ev.Env.set, Ev.look, Ev.qn, Ev.qi, Ev.qab, Ev.AV.cells, Ev.qv, Ev.AV.plain, Ev.ql, Ev.qw, Ev.qae, Ev.kill, Ev.qad, Ev.qd, Ev.qa4, Ev.qy, Ev.qdf, Ev.qde, Ev.qj, Ev.qk, ↓Ev.qq, ↓reduceIte, List.length_cons, List.length_nil, List.take_nil, List.drop_zero, List.head?_cons, Nat.reduceEqDiff, Bool.and_self, Bool.false_eq_true, and_self, ne_eq, not_false_eq_true, List.cons_ne_nil, Nat.zero_add, eq_self]
def q1k (c : Cfg) (p : Nat × Int) : List AV := [.fn (.func p.1) [(.agg [(.fsl ((c.lps).map lpC) false), (.fsl ((c.progs).map qbu) false), (.v (.int .i64 (c.look))), (.v (.int .i64 (c.fin))), (.v (.int .i64 (c.cap)))])] []]
theorem rule_lo (n : Nat) (p : Nat × Int) : los n (q1k c p) = true := by simp only [q1k, qcg, qbh, Ev.qa4, Ev.qbn, Ev.qy, Ev.qde, Ev.qj, Ev.qk, Bool.and_self, eq_self]
theorem q1b (n : Nat) (l : List (Nat × Int)) : qit n (l.map (q1k c)) = true := qjz (rule_lo c n) l
theorem q1a (l : List (Nat × Int)) (b : Bool) (hl : l.length < 2 ^ 62) (hf : ∀ p ∈ l, (evL T).call p.1 [(.agg [(.fsl ((c.lps).map lpC) false), (.fsl ((c.progs).map qbu) false), (.v (.int .i64 (c.look))), (.v (.int .i64 (c.fin))), (.v (.int .i64 (c.cap)))])] [] = some ((.v (.int .i64 (p.2))), [])) :
    qbk (evL T) qcz [.fsl (l.map (q1k c)) b, .fn (.func qet) [] []] = some (.v (.int .i64 (qf2 Prod.snd l))) := by
  have h1 : ∀ p ∈ l, (evL T).call qet [.fn (.func p.1) [(.agg [(.fsl ((c.lps).map lpC) false), (.fsl ((c.progs).map qbu) false), (.v (.int .i64 (c.look))), (.v (.int .i64 (c.fin))), (.v (.int .i64 (c.cap)))])] []] [] = some ((.v (.int .i64 (p.2))), []) := fun p hp => by
    have := hf p hp
    rw [qu qtq qsw]
    simp only [qj1, this, Ev.qm, Ev.exec, Ev.qb, Ev.qe, Ev.qc, Ev.qhl, Ev.qaf, Ev.evs, Ev.Opnd.ev, Ev.Env.get, Ev.Env.set, Ev.look, Ev.qn, Ev.ql, Ev.qw, Ev.qae, Ev.kill, Ev.qad, Ev.qd, Ev.qa4, ↓Ev.qq, ↓reduceIte, List.length_cons, List.length_nil, List.take_nil, List.append_nil, reduceCtorEq, and_self, Nat.zero_add, eq_self]
  have hL : ∃ y, itB (exec (evL T) itL none qdc) (Ev.qs [1, 8, 9, 10] true 0) ⟨[(1, .fn (.func qet) [] []), (8, .fsl (l.map (q1k c)) b), (9, (.v (.int .i64 (l.length)))), (10, (.v (.int .i64 (0))))], []⟩ [] = some y ∧ (l.all (fun x => decide (x.2 = 0)) = true ∧ (y.1 = .exit 0 ∧ y.2.1.marks = [] ∧ y.2.2 = []) ∨
      l.all (fun x => decide (x.2 = 0)) = false ∧ ∃ x, l.find? (fun x => !decide (x.2 = 0)) = some x ∧ (y.1 = .ret ∧ y.2.1.marks = [] ∧ y.2.2 = [] ∧ Ev.look y.2.1.vars 4 = some (.v (.int .i64 (x.2))))) := by
    refine qfg l (fun i => ⟨[(1, .fn (.func qet) [] []), (8, .fsl (l.map (q1k c)) b), (9, (.v (.int .i64 (l.length)))), (10, (.v (.int .i64 (i))))], []⟩) [] (fun x => decide (x.2 = 0)) _ (fun x y => _) ?_ ?_ ?_
    · intro i x hi hx hp
      have hi' : (i : Int) < (l.length : Int) := by omega
      have hw : IntKind.i64.wrap ((i : Int) + 1) = ((i + 1 : Nat) : Int) := by rw [qat (by omega) (by omega)]; simp
      have h2 := h1 x (List.mem_of_getElem? hx)
      rw [of_decide_eq_true hp] at h2
      simp only [qdc, Int.natCast_nonneg, Int.toNat_natCast, List.getElem?_map, Option.map_some, hx, hi', hw, h2, q1b, q1k, Ev.exec, Ev.qb, Ev.qe, Ev.qc, Ev.qhl, Ev.qaf, Ev.evs, Ev.Opnd.ev, Ev.Env.get, Ev.Env.set, Ev.look, Ev.qi, Ev.qab, Ev.qaj, Ev.qbd, Ev.qo, Ev.qs, Ev.keep, Ev.qai, Ev.qaa, Ev.qd, Ev.qa4, Ev.qy, Ev.qde, Ev.qj, ↓Ev.qq, Ev.it1, ↓reduceIte, List.length_cons, List.length_nil, List.take_nil, List.nil_append, List.append_nil, List.head?_cons, Nat.reduceEqDiff, decide_true, decide_false, Bool.and_self, Bool.false_eq_true, and_self, ne_eq, not_true_eq_false, Nat.zero_add, eq_self]
    · intro i x hi hx hp
      have hi' : (i : Int) < (l.length : Int) := by omega
      have h2 := h1 x (List.mem_of_getElem? hx)
      have h3 : ¬ x.2 = 0 := of_decide_eq_false hp
      simp only [qdc, Int.natCast_nonneg, Int.toNat_natCast, List.getElem?_map, Option.map_some, hx, hi', h2, h3, q1k, Ev.exec, Ev.qb, Ev.qe, Ev.qc, Ev.qhl, Ev.qaf, Ev.evs, Ev.Opnd.ev, Ev.Env.get, Ev.Env.set, Ev.look, Ev.qi, Ev.qab, Ev.qbd, Ev.qo, ↓Ev.qq, Ev.it1, ↓reduceIte, List.length_cons, List.length_nil, List.nil_append, List.append_nil, List.head?_cons, Nat.reduceEqDiff, decide_true, Bool.false_eq_true, ne_eq, not_false_eq_true, Nat.zero_add, eq_self]
      exact ⟨_, rfl, rfl, rfl, rfl, rfl⟩
    · simp only [qdc, Int.lt_irrefl, Ev.exec, Ev.qb, Ev.qe, Ev.qc, Ev.qaf, Ev.Opnd.ev, Ev.Env.get, Ev.Env.set, Ev.look, Ev.qo, ↓Ev.qq, Ev.it1, ↓reduceIte, Nat.reduceEqDiff, decide_false, Bool.false_eq_true, eq_self]
      exact ⟨_, rfl, rfl, rfl, rfl⟩
  obtain ⟨⟨y, e, σ⟩, k1, k2⟩ := hL
  simp only at k2
  rw [qbk, qu qk2 qkv]
  rcases k2 with ⟨k3, rfl, k4, rfl⟩ | ⟨k3, x, k5, rfl, k4, rfl, k6⟩
  · rw [qrx k3]
    simp only [qdn, k1, k4, q1b, Ev.qm, Ev.exec, Ev.qb, Ev.qe, Ev.qc, Ev.qaf, Ev.Opnd.ev, Ev.Env.get, Ev.Env.set, Ev.look, Ev.qn, Ev.ql, Ev.qw, Ev.qae, Ev.kill, Ev.qad, Ev.qs, Ev.keep, Ev.qai, Ev.qaa, Ev.qd, Ev.qa4, Ev.qy, Ev.qde, Ev.qj, Ev.qal, List.length_map, ↓Ev.qq, ↓Ev.qan, ↓reduceIte, List.length_cons, List.length_nil, List.take_nil, Nat.reduceAdd, Nat.reduceEqDiff, reduceCtorEq, Bool.and_self, and_self, Nat.zero_add, eq_self]
  · rw [qp2 k5]
    simp only [qdn, k1, k4, k6, q1b, Ev.qm, Ev.exec, Ev.qb, Ev.qe, Ev.qc, Ev.qaf, Ev.Opnd.ev, Ev.Env.get, Ev.Env.set, Ev.look, Ev.qn, Ev.ql, Ev.qw, Ev.qae, Ev.kill, Ev.qad, Ev.qs, Ev.keep, Ev.qai, Ev.qaa, Ev.qd, Ev.qa4, Ev.qy, Ev.qde, Ev.qj, Ev.qal, List.length_map, ↓Ev.qq, ↓Ev.qan, ↓reduceIte, List.length_cons, List.length_nil, List.take_nil, Nat.reduceAdd, Nat.reduceEqDiff, reduceCtorEq, Bool.and_self, and_self, Nat.zero_add, eq_self]
def cfgL (c : Cfg) : List (Nat × Int) := [(qdy, okZ (qqn c) 1), (qcw, okZ (decide (c.look ≥ 1)) 20), (qc7, qf2 (qyu c) c.progs), (qdk, qf2 (qf2 (qo3 c)) c.lps)]
def q6f (c : Cfg) : Int := qf2 Prod.snd (cfgL c)
theorem qxk (h : CfgOk c) : qbk (evL T) qhk [(.agg [(.fsl ((c.lps).map lpC) false), (.fsl ((c.progs).map qbu) false), (.v (.int .i64 (c.look))), (.v (.int .i64 (c.fin))), (.v (.int .i64 (c.cap)))])] = some (.v (.int .i64 (q6f c))) := by
  have v := q1a c (cfgL c) true (by simp [cfgL]) (by
    intro p hp
    simp only [cfgL, List.mem_cons, List.not_mem_nil, or_false] at hp
    rcases hp with rfl | rfl | rfl | rfl
    · exact qvu c h
    · exact qr9 c
    · exact qsp c h
    · exact qub c h)
  rw [show qf2 Prod.snd (cfgL c) = q6f c from rfl] at v
  have hrep : List.replicate 4 ([.v .nilFunc] : List AV) = [[.v .nilFunc], [.v .nilFunc], [.v .nilFunc], [.v .nilFunc]] := rfl
  simp only [cfgL, List.map_cons, List.map_nil, q1k] at v
  rw [qbk, qu qv6 qu0]
  simp only [qla, hrep, v, qcg, qbh, Ev.qm, Ev.exec, Ev.qb, Ev.qe, Ev.qc, Ev.qa9, Ev.qaf, Ev.evs, Ev.Opnd.ev, Ev.Env.get, Ev.Env.set, Ev.look, Ev.qn, Ev.qi, Ev.qab, Ev.qff, Ev.qjo, Ev.AV.cells, Ev.AV.uc, Ev.qv, Ev.AV.plain, Ev.ql, Ev.qw, Ev.qae, Ev.kill, Ev.qad, Ev.qd, Ev.qa4, Ev.qbn, Ev.qy, Ev.qde, Ev.qj, Ev.qk, Ev.qac, Ev.qaq, Ev.qal, ↓Ev.qq, ↓reduceIte, List.length_cons, List.length_nil, List.getElem?_cons_zero, List.take_succ_cons, List.take_zero, List.take_nil, List.drop_succ_cons, List.drop_zero, List.drop_nil, List.nil_append, List.append_nil, List.set_cons_zero, List.set_cons_succ, Nat.reduceAdd, Nat.reduceEqDiff, Nat.reduceMul, Nat.reduceLT, Nat.reduceLeDiff, Nat.reducePow, Bool.and_self, and_self, ne_eq, not_false_eq_true, List.cons_ne_nil, Nat.zero_add, Nat.lt_add_one, Nat.le_refl, eq_self]
end
set_option maxRecDepth 10000
theorem q6j {c : Cfg} (h : qqn c = false) : q6f c = 1 := by
  unfold q6f cfgL qf2; rw [h]; rfl
theorem q7u {c : Cfg} (h1 : qqn c = true) (h2 : ¬ c.look ≥ 1) : q6f c = 20 := by
  unfold q6f cfgL qf2; rw [h1]; simp [h2, okZ]
theorem q5x {c : Cfg} (h1 : qqn c = true) (h2 : c.look ≥ 1) (h3 : qf2 (qyu c) c.progs ≠ 0) : q6f c = qf2 (qyu c) c.progs := by
  unfold q6f
  generalize hz : qf2 (qyu c) c.progs = z at h3
  unfold cfgL
  rw [hz, h1]
  unfold qf2; simp [h2, okZ, h3]
theorem q4d {c : Cfg} (h1 : qqn c = true) (h2 : c.look ≥ 1) (h3 : qf2 (qyu c) c.progs = 0) : q6f c = qf2 (qf2 (qo3 c)) c.lps := by
  unfold q6f
  generalize hz : qf2 (qf2 (qo3 c)) c.lps = z
  unfold cfgL
  rw [hz, h3, h1]
  by_cases h : z = 0 <;> (unfold qf2; simp [h2, okZ, h])
theorem q1f {τ : Type} (f : τ → Int) (l : List τ) : qf2 f l = qpj f l := by
  unfold qf2 qpj
  cases l.find? (fun x => !decide (f x = 0)) <;> rfl
theorem q9f (c : Cfg) : qqh c = qqn c := by
  rw [Bool.eq_iff_iff]
  simp only [qqh, qqn, q2y, qcj, lenB, len8, Bool.and_eq_true, decide_eq_true_eq, List.all_eq_true, Bool.not_eq_true', decide_eq_false_iff_not]
  constructor
  · rintro ⟨⟨h1, h2, h3⟩, h4, h5, h6, h7, h8⟩
    exact ⟨⟨⟨by omega, by omega⟩, by omega, ⟨by omega, by omega⟩, by omega, by omega⟩, fun x hx => by have := h4 x hx; omega⟩
  · rintro ⟨⟨⟨h1, h2⟩, h3, ⟨h4, h5⟩, h6, h7⟩, h8⟩
    exact ⟨⟨by omega, by omega, by omega⟩, fun x hx => by have := h8 x hx; omega, by omega, by omega, by omega, by omega⟩
theorem q80 (c : Cfg) (s : Start) : qiu c s = qo3 c s := by
  unfold qiu qo3 okZ qcj
  by_cases h1 : s.prog < 0 ∨ s.prog ≥ c.progs.length
  · have : (decide (s.prog ≥ 0) && decide (s.prog ≤ (c.progs.length : Int) - 1)) = false := by
      rw [Bool.and_eq_false_iff]; simp only [decide_eq_false_iff_not]; omega
    rw [if_pos h1, if_pos this]
  · have : ¬ (decide (s.prog ≥ 0) && decide (s.prog ≤ (c.progs.length : Int) - 1)) = false := by
      rw [Bool.and_eq_false_iff]; simp only [decide_eq_false_iff_not]; omega
    rw [if_neg h1, if_neg this]
    by_cases h2 : s.time < 0 ∨ s.time > 1152921504606846976
    · have : ¬ (decide (s.time ≥ 0) && decide (s.time ≤ 1152921504606846976)) = true := by
        rw [Bool.and_eq_true]; simp only [decide_eq_true_eq]; omega
      rw [if_pos h2, if_neg this]
    · have : (decide (s.time ≥ 0) && decide (s.time ≤ 1152921504606846976)) = true := by
        rw [Bool.and_eq_true]; simp only [decide_eq_true_eq]; omega
      rw [if_neg h2, if_pos this]
theorem rcfgZ_eq (c : Cfg) : q3n c = q6f c := by
  have e1 : rlpZ c = qf2 (qo3 c) := by
    funext l; show qpj (qiu c) l = _
    rw [q1f, show qiu c = qo3 c from funext (q80 c)]
  have e2 : qse c = qyu c := rfl
  unfold q3n
  rw [q9f, e1, e2, ← q1f, ← q1f]
  by_cases h1 : qqn c = false
  · rw [if_pos h1, q6j h1]
  have h1' : qqn c = true := by simpa using h1
  rw [if_neg h1]
  by_cases h2 : c.look < 1
  · rw [if_pos h2, q7u h1' (by omega)]
  rw [if_neg h2]
  by_cases h3 : qf2 (qyu c) c.progs ≠ 0
  · rw [if_pos h3, q5x h1' (by omega) h3]
  · rw [if_neg h3, q4d h1' (by omega) (by simpa using h3)]
set_option maxRecDepth 10000
section
variable {c : Cfg} {s : Sim} {h : List Evt} {n : Nat} {L : List (Lp × Bool)} {A : qx} {O : List (List AV)}
theorem run_ev (hn : c.lps.length = n) (lim k : Nat) (hlim : lim ≤ 60) (hk : s.n + k = lim) (H : SInv c s h) (S : SimSt n s L A O) :
    ∃ (L' : List (Lp × Bool)) (A' : qx) (O' : List (List AV)), SimSt n (Sim.run c k s) L' A' O' ∧ (evL T).call qdx [(.ptr (n + 2) 0 0 0), (.v (.int .i64 (lim)))] (A ++ [.row 1 O 0, (.row 10 [[(.fsl ((c.lps).map lpC) false), (.fsl ((c.progs).map qbu) false), (.v (.int .i64 (c.look))), (.v (.int .i64 (c.fin))), (.v (.int .i64 (c.cap))), .sl (n + 1) 0 0 n false, .sl 0 1 0 n false, (.fsl ((s.pend).map Evt.r) false), (.v (.int .i64 (s.n))), (.v (.bool (s.over)))]] 0)]) = some (.tup [], (A' ++ [.row 1 O' 0, (.row 10 [[(.fsl ((c.lps).map lpC) false), (.fsl ((c.progs).map qbu) false), (.v (.int .i64 (c.look))), (.v (.int .i64 (c.fin))), (.v (.int .i64 (c.cap))), .sl (n + 1) 0 0 n false, .sl 0 1 0 n false, (.fsl (((Sim.run c k s).pend).map Evt.r) false), (.v (.int .i64 ((Sim.run c k s).n))), (.v (.bool ((Sim.run c k s).over)))]] 0)])) := by
  obtain ⟨⟨y, e, σ⟩, k1, L', A', O', S', k2, k3, k4⟩ := run_L hn lim hlim k hk H S
  simp only at k2 k3 k4
  subst k2; subst k4
  refine ⟨L', A', O', S', ?_⟩
  have hlo := S.lo (c := c)
  have hcut := q0n S.len [.row 1 O 0, (.row 10 [[(.fsl ((c.lps).map lpC) false), (.fsl ((c.progs).map qbu) false), (.v (.int .i64 (c.look))), (.v (.int .i64 (c.fin))), (.v (.int .i64 (c.cap))), .sl (n + 1) 0 0 n false, .sl 0 1 0 n false, (.fsl ((s.pend).map Evt.r) false), (.v (.int .i64 (s.n))), (.v (.bool (s.over)))]] 0)]
  have hlo' := S'.lo (c := c)
  have hcut' := q0n S'.len [.row 1 O' 0, (.row 10 [[(.fsl ((c.lps).map lpC) false), (.fsl ((c.progs).map qbu) false), (.v (.int .i64 (c.look))), (.v (.int .i64 (c.fin))), (.v (.int .i64 (c.cap))), .sl (n + 1) 0 0 n false, .sl 0 1 0 n false, (.fsl (((Sim.run c k s).pend).map Evt.r) false), (.v (.int .i64 ((Sim.run c k s).n))), (.v (.bool ((Sim.run c k s).over)))]] 0)]
  have d2 : n + 2 < n + 3 := by omega
  simp only [List.take_succ_cons, List.take_zero] at hcut hcut'
  rw [qu qo7 qos]
  simp only [qgu, S.len, Nat.add_assoc, hlo, hcut, hlo', hcut', d2, k1, k3, Ev.qm, Ev.exec, Ev.Env.get, Ev.look, Ev.qn, Ev.ql, Ev.qae, Ev.kill, Ev.qad, Ev.qs, Ev.keep, Ev.qai, Ev.qaa, Ev.qa4, Ev.qbc, Ev.qjv, Ev.qj, ↓Ev.qq, ↓Ev.qan, ↓reduceIte, List.length_cons, List.length_nil, List.length_append, Nat.reduceAdd, reduceCtorEq, decide_true, Bool.and_self, and_self, Nat.zero_add, eq_self]
theorem q3l (h : Small12 c) : ∃ (R : List (List AV)) (τ : qx), (evL T).call qho [(.agg [(.fsl ((c.lps).map lpC) false), (.fsl ((c.progs).map qbu) false), (.v (.int .i64 (c.look))), (.v (.int .i64 (c.fin))), (.v (.int .i64 (c.cap)))])] [] = some (.sl 0 0 0 c.lps.length true, .row 4 R 0 :: τ) ∧ qgp (qgp (Ev.frz (.dead :: τ) 5)) R = some ((qgm c.lps).map lpF) := by
  obtain ⟨⟨y, e, σ⟩, k1, R, τ, k2, k3, k4, k5, k6⟩ := q2j c h
  simp only at k1 k2 k3 k4 k5 k6
  subst k2; subst k4
  have hlps := h.lps
  have b1 : (c.lps.length : Int) * 48 ≤ 140737488355328 := by omega
  have b1' : 48 * (c.lps.length : Int) ≤ 140737488355328 := by omega
  have b2 : (c.lps.length : Int) ≤ 4611686018427387904 := by omega
  refine ⟨R, τ, ?_, ?_⟩
  · rw [qu qun qtw]
    simp only [qko, Int.natCast_nonneg, Int.toNat_natCast, b1', b2, k1, k3, k6, Int.le_refl, Ev.qm, Ev.exec, Ev.qb, Ev.qe, Ev.qc, Ev.qaf, Ev.Opnd.ev, Ev.Env.get, Ev.Env.set, Ev.look, Ev.qn, Ev.qi, Ev.qab, Ev.AV.cells, Ev.qv, Ev.AV.plain, Ev.ql, Ev.qw, Ev.qae, Ev.kill, Ev.qad, Ev.qs, Ev.keep, Ev.qd, Ev.qb8, List.length_map, ↓Ev.qq, ↓Ev.qan, ↓reduceIte, List.length_cons, List.length_nil, List.take_zero, List.drop_zero, List.nil_append, List.head?_cons, Nat.reduceAdd, Nat.reduceEqDiff, Nat.reduceLT, Int.reducePow, Int.cast_ofNat_Int, decide_true, decide_false, Bool.and_self, Bool.false_eq_true, and_self, and_true, ne_eq, not_false_eq_true, List.cons_ne_nil, Nat.zero_add, eq_self]
  · exact (k5.mono (σ' := .dead :: τ) (Nat.le_refl _) (fun o h1 h2 => by
      obtain ⟨o, rfl⟩ : ∃ p, o = p + 1 := ⟨o - 1, by omega⟩
      rw [List.getElem?_cons_succ, List.getElem?_cons_succ])).frz (d := 4)
theorem start_ev (hn : c.lps.length = n) (h : Small12 c) :
    ∃ (A : qx) (O : List (List AV)), SimSt n (start c) (qgm c.lps) A O ∧ (evL T).call qhf [(.agg [(.fsl ((c.lps).map lpC) false), (.fsl ((c.progs).map qbu) false), (.v (.int .i64 (c.look))), (.v (.int .i64 (c.fin))), (.v (.int .i64 (c.cap)))])] [] = some ((.ptr (n + 2) 0 0 0), (A ++ [.row 1 O 0, (.row 10 [[(.fsl ((c.lps).map lpC) false), (.fsl ((c.progs).map qbu) false), (.v (.int .i64 (c.look))), (.v (.int .i64 (c.fin))), (.v (.int .i64 (c.cap))), .sl (n + 1) 0 0 n false, .sl 0 1 0 n false, (.fsl (((start c).pend).map Evt.r) false), (.v (.int .i64 ((start c).n))), (.v (.bool ((start c).over)))]] 0)])) := by
  obtain ⟨R, τ, hs, hf⟩ := q3l (c := c) h
  have hi := quf c h
  have hlps := h.lps
  have hlo : qd (n + 1) (.row 4 ((qgm c.lps).map lpF) 1 :: List.replicate n (.row 6 [] 0)) = true := by
    rw [qqg]
    intro x hx
    rcases List.mem_cons.1 hx with rfl | hx
    · rw [qtr]; exact qp3 _ _
    · rw [List.eq_of_mem_replicate hx, qtr, qac]
  have hO : qit (n + 1) ((List.range n).map fun i => [(.sl (1 + i) 0 0 0 false : AV)]) = true := by
    have : ∀ (l : List Nat), (∀ i ∈ l, i < n) → qit (n + 1) (l.map fun i => [(.sl (1 + i) 0 0 0 false : AV)]) = true := by
      intro l
      induction l with
      | nil => intro _; exact qac _
      | cons a l ih =>
        intro hl
        have ha := hl a (by simp)
        have d : 1 + a < n + 1 := by omega
        rw [List.map_cons, qaq, ih (fun i hi => hl i (by simp [hi]))]
        simp only [qk, qj, qb8, d, decide_true, Bool.and_self]
    exact this _ (fun i hi => List.mem_range.1 hi)
  refine ⟨.row 4 ((qgm c.lps).map lpF) 1 :: List.replicate n (.row 6 [] 0), (List.range n).map fun i => [.sl (1 + i) 0 0 0 false], ⟨by simp, rfl, by simp [qgm, qyg, hn], rfl, ?_, by simp [K.start, hn], by simp, ?_, hlo, hO⟩, ?_⟩
  · intro x hx hf
    simp only [qgm, qyg, List.mem_map] at hx
    obtain ⟨ps, ⟨l, _, rfl⟩, rfl⟩ := hx
    simpa [q68] using hf
  · intro i hi
    have : qpu (start c) i = [] := by unfold qpu; simp [K.start, hn, hi]
    refine ⟨0, ?_, ?_⟩
    · rw [this, List.getElem?_cons_succ, List.getElem?_replicate, if_pos hi]; rfl
    · rw [this, List.getElem?_map, List.getElem?_range hi, Option.map_some, Nat.add_comm]; rfl
  · have b1 : 24 * (n : Int) ≤ 140737488355328 := by omega
    have b2 : (n : Int) ≤ 4611686018427387904 := by omega
    have b3 : (n : Int) * 24 ≤ 140737488355328 := by omega
    rw [hn] at hs
    have e1 : (start c).pend = qst (qkj c.lps) := rfl
    have e2 : (start c).n = 0 := rfl
    have e3 : (start c).over = false := rfl
    rw [e1, e2, e3]
    have d1 : n + 1 + 1 = n + 2 := rfl
    rw [qu qwi quh]
    simp only [qlb, Int.natCast_nonneg, Int.toNat_natCast, hn, hs, hf, hi, b1, b2, d1, List.set_cons_zero, List.append_assoc, Nat.not_lt_zero, qcg, qbh, Ev.qm, Ev.exec, Ev.qb, Ev.qe, Ev.qc, Ev.qa9, Ev.item_H, Ev.qaf, Ev.evs, Ev.Opnd.ev, Ev.Env.get, Ev.Env.set, Ev.look, Ev.qn, Ev.qi, Ev.qab, Ev.qff, Ev.AV.cells, Ev.AV.uc, Ev.qv, Ev.AV.plain, Ev.ql, Ev.qw, Ev.qae, Ev.kill, Ev.qad, Ev.qd, Ev.qa4, Ev.qbn, Ev.qy, Ev.qjv, Ev.qj, Ev.qk, List.length_replicate, List.length_map, ↓Ev.qq, ↓reduceIte, List.length_cons, List.length_nil, List.length_append, List.getElem?_cons_zero, List.take_succ_cons, List.take_zero, List.take_nil, List.drop_succ_cons, List.drop_zero, List.cons_append, List.nil_append, List.set_cons_zero, List.head?_cons, Nat.reduceAdd, Nat.reduceEqDiff, Nat.reduceLT, Nat.reduceLeDiff, Int.reducePow, Int.cast_ofNat_Int, decide_false, Bool.and_self, Bool.false_eq_true, and_self, and_true, ne_eq, not_false_eq_true, List.cons_ne_nil, Nat.zero_add, Nat.le_refl, eq_self]
    rw [Nat.add_comm 1 n]
mutual
theorem q50 : ∀ (a : AV), a.shift 0 = a
  | .v _ => by simp only [AV.shift]
  | .agg cs => by simp only [AV.shift, qj7 cs]
  | .tup cs => by simp only [AV.shift, qj7 cs]
  | .fsl es c => by simp only [AV.shift, qq3 es]
  | .fptr cs => by simp only [AV.shift, qj7 cs]
  | .sl o g off len c => by simp only [AV.shift, Nat.add_zero]
  | .ptr o g i off => by simp only [AV.shift, Nat.add_zero]
  | .fn f a b => by simp only [AV.shift, qj7 a, qj7 b]
  | .yld o => by simp only [AV.shift, Nat.add_zero]
  | .mp o => by simp only [AV.shift, Nat.add_zero]
theorem qj7 : ∀ (l : List AV), qh0 0 l = l
  | [] => by simp only [qh0]
  | a :: l => by simp only [qh0, q50 a, qj7 l]
theorem qq3 : ∀ (l : List (List AV)), qhu 0 l = l
  | [] => by simp only [qhu]
  | a :: l => by simp only [qhu, qj7 a, qq3 l]
end
theorem q31 {α β : Type} {f : α → Option β} : ∀ {l : List α} {t : List β}, l.length = t.length → (∀ (i : Nat) (a : α) (b : β), l[i]? = some a → t[i]? = some b → f a = some b) → qgp f l = some t
  | [], [], _, _ => rfl
  | a :: l, b :: t, hl, h => by
    rw [qfi, h 0 a b rfl rfl, q31 (by simpa using hl) (fun i a b h1 h2 => h (i + 1) a b h1 h2)]; rfl
  | [], _ :: _, h, _ => by simp at h
  | _ :: _, [], h, _ => by simp at h
theorem SimSt.frzO (S : SimSt n s L A O) (d : Nat) (B : qx) : qgp (qgp (Ev.frz (A ++ B) (d + 1))) O = some (s.trace.map qkk) := by
  refine q31 (by rw [List.length_map, S.ol, S.trl]) (fun i a b h1 h2 => ?_)
  have hi : i < n := by have := (List.getElem?_eq_some_iff.1 h1).1; rw [S.ol] at this; exact this
  obtain ⟨g, t1, t2⟩ := S.tr i hi
  rw [t2] at h1; cases h1
  have t3 : s.trace[i]? = some (qpu s i) := by
    unfold qpu; rw [Int.toNat_natCast, List.getElem?_eq_getElem (by rw [S.trl]; exact hi)]; rfl
  rw [List.getElem?_map, t3] at h2; cases h2
  have hs : (A ++ B)[i + 1]? = some (.row 6 ((qpu s i).map Evt.r) g) := by rw [List.getElem?_append_left (by rw [S.len]; omega)]; exact t1
  have tk : List.take (qpu s i).length (List.drop 0 ((qpu s i).map Evt.r)) = (qpu s i).map Evt.r := by rw [List.drop_zero]; exact List.take_of_length_le (by simp)
  rw [qfi, qhn, frz_sl hs (by simp) (by rw [tk]; exact qah _ _), tk]
  rfl
def isRow : SObj → Bool
  | .row .. => true
  | _ => false
theorem imp_zero {σ : qx} (h : ∀ x ∈ σ, isRow x = true) : qgp (q07 0) σ = some σ := by
  refine q31 rfl (fun i a b h1 h2 => ?_)
  rw [h1] at h2; cases h2
  have := h a (List.mem_of_getElem? h1)
  cases a <;> simp only [isRow, Bool.false_eq_true] at this
  simp only [q07, qq3]
theorem SimSt.imp (S : SimSt n s L A O) : qgp (q07 0) (A ++ [.row 1 O 0, (.row 10 [[(.fsl ((c.lps).map lpC) false), (.fsl ((c.progs).map qbu) false), (.v (.int .i64 (c.look))), (.v (.int .i64 (c.fin))), (.v (.int .i64 (c.cap))), .sl (n + 1) 0 0 n false, .sl 0 1 0 n false, (.fsl ((s.pend).map Evt.r) false), (.v (.int .i64 (s.n))), (.v (.bool (s.over)))]] 0)]) = some (A ++ [.row 1 O 0, (.row 10 [[(.fsl ((c.lps).map lpC) false), (.fsl ((c.progs).map qbu) false), (.v (.int .i64 (c.look))), (.v (.int .i64 (c.fin))), (.v (.int .i64 (c.cap))), .sl (n + 1) 0 0 n false, .sl 0 1 0 n false, (.fsl ((s.pend).map Evt.r) false), (.v (.int .i64 (s.n))), (.v (.bool (s.over)))]] 0)]) := by
  refine imp_zero (fun x hx => ?_)
  rcases List.mem_append.1 hx with hx | hx
  · obtain ⟨i, hi⟩ := List.mem_iff_getElem?.1 hx
    have hl := (List.getElem?_eq_some_iff.1 hi).1
    rw [S.len] at hl
    cases i with
    | zero => rw [S.lps] at hi; cases hi; rfl
    | succ i => obtain ⟨g, t1, _⟩ := S.tr i (by omega); rw [t1] at hi; cases hi; rfl
  · simp only [List.mem_cons, List.not_mem_nil, or_false] at hx
    rcases hx with rfl | rfl <;> rfl
def errZ (c : Cfg) (s : Sim) : Int := if s.ready c = true then 10 else if s.over = true then 11 else 0
theorem Run_ev (hn : c.lps.length = n) (h12 : Small12 c) (hok : CfgOk c) (hz : q6f c = 0) (hv : Valid c) (lim : Nat) (hlim : lim ≤ 60) :
    ∃ L : List (Lp × Bool), L.map Prod.fst = (Sim.run c lim (start c)).lps ∧ (∀ x ∈ L, x.2 = true → x.1.procs = []) ∧
      qbk (evL T) qgf [(.agg [(.fsl ((c.lps).map lpC) false), (.fsl ((c.progs).map qbu) false), (.v (.int .i64 (c.look))), (.v (.int .i64 (c.fin))), (.v (.int .i64 (c.cap)))]), (.v (.int .i64 (lim)))] = some (.tup [(.fsl (((Sim.run c lim (start c)).trace).map qkk) false), (.fsl ((L).map lpF) false), (.v (.int .i64 (errZ c (Sim.run c lim (start c)))))]) := by
  have hk := qxk c hok
  rw [hz] at hk
  obtain ⟨A0, O0, S0, h0⟩ := start_ev (c := c) hn h12
  obtain ⟨L, A, O, S, h1⟩ := run_ev hn lim lim hlim (by show 0 + lim = lim; omega) (SInv.start hv) S0
  have h2 := q49 (c := c) (s := Sim.run c lim (start c)) (O := O) S.len
  refine ⟨L, S.lpf, S.flag, ?_⟩
  have i1 := S0.imp (c := c)
  have fO := fun d B => S.frzO d B
  have tO : O.take n = O := List.take_of_length_le (by rw [S.ol]; omega)
  have tL : (L.map lpF).take n = L.map lpF := List.take_of_length_le (by rw [List.length_map, S.lpl]; omega)
  have hA0 := S.lps
  have p1 := fun B => q03 S.len B 0 (by omega)
  have hOl := S.ol
  have hLl := S.lpl
  have hle : n ≤ n := Nat.le_refl _
  rw [qbk, qu qzo qyx]
  unfold errZ
  cases hr : (Sim.run c lim (start c)).ready c with
  | true =>
    rw [hr] at h2
    simp only [qkf, q2l S.len, qkx S.len, hk, h0, i1, h1, h2, p1, hA0, fO, tO, tL, hOl, hLl, hle, qp3, qcg, qbh, Ev.qm, Ev.exec, Ev.qb, Ev.qe, Ev.qc, Ev.qa9, Ev.qqm, Ev.qd0, Ev.AV.shift, Ev.qaf, Ev.evs, Ev.Opnd.ev, Ev.Env.get, Ev.Env.set, Ev.look, Ev.qn, Ev.qi, Ev.qab, Ev.AV.cells, Ev.qv, Ev.AV.plain, Ev.qbd, Ev.ql, Ev.qw, Ev.qae, Ev.kill, Ev.qad, Ev.qd, Ev.qa4, Ev.qbn, Ev.qbc, Ev.qy, Ev.qb8, Ev.qj, Ev.qk, Ev.qal, Ev.qui, Ev.qk1, Ev.qiq, Ev.qhn, Ev.qfi, List.length_map, ↓Ev.qq, ↓reduceIte, List.length_cons, List.length_nil, List.getElem?_cons_zero, List.getElem?_cons_succ, List.take_succ_cons, List.take_zero, List.take_nil, List.drop_succ_cons, List.drop_zero, List.nil_append, List.head?_cons, Nat.reduceAdd, Nat.reduceEqDiff, Nat.reduceLT, reduceCtorEq, decide_false, Bool.and_self, Bool.and_true, Bool.false_eq_true, and_self, and_true, ne_eq, not_false_eq_true, not_true_eq_false, List.cons_ne_nil, Nat.zero_add, Nat.add_zero, Nat.le_refl, eq_self, Bool.and_false]
    done
  | false =>
    rw [hr] at h2
    cases ho : (Sim.run c lim (start c)).over with
    | true =>
      rw [ho] at h1 h2
      simp only [qkf, q2l S.len, qkx S.len, hk, h0, i1, h1, h2, p1, hA0, fO, tO, tL, hOl, hLl, hle, qp3, qcg, qbh, Ev.qm, Ev.exec, Ev.qb, Ev.qe, Ev.qc, Ev.qa9, Ev.qqm, Ev.qd0, Ev.AV.shift, Ev.qaf, Ev.evs, Ev.Opnd.ev, Ev.Env.get, Ev.Env.set, Ev.look, Ev.qn, Ev.qi, Ev.qab, Ev.AV.cells, Ev.qv, Ev.AV.plain, Ev.qbd, Ev.ql, Ev.qw, Ev.qae, Ev.kill, Ev.qad, Ev.qd, Ev.qa4, Ev.qbn, Ev.qbc, Ev.qy, Ev.qb8, Ev.qj, Ev.qk, Ev.qal, Ev.qui, Ev.qk1, Ev.qiq, Ev.qhn, Ev.qfi, List.length_map, ↓Ev.qq, ↓reduceIte, List.length_cons, List.length_nil, List.getElem?_cons_zero, List.getElem?_cons_succ, List.take_succ_cons, List.take_zero, List.take_nil, List.drop_succ_cons, List.drop_zero, List.nil_append, List.head?_cons, Nat.reduceAdd, Nat.reduceEqDiff, Nat.reduceLT, reduceCtorEq, decide_false, Bool.and_self, Bool.and_true, Bool.false_eq_true, and_self, and_true, ne_eq, not_false_eq_true, not_true_eq_false, List.cons_ne_nil, Nat.zero_add, Nat.add_zero, Nat.le_refl, eq_self, Bool.and_false]
      done
    | false =>
      rw [ho] at h1 h2
      simp only [qkf, q2l S.len, qkx S.len, hk, h0, i1, h1, h2, p1, hA0, fO, tO, tL, hOl, hLl, hle, qp3, qcg, qbh, Ev.qm, Ev.exec, Ev.qb, Ev.qe, Ev.qc, Ev.qa9, Ev.qqm, Ev.qd0, Ev.AV.shift, Ev.qaf, Ev.evs, Ev.Opnd.ev, Ev.Env.get, Ev.Env.set, Ev.look, Ev.qn, Ev.qi, Ev.qab, Ev.AV.cells, Ev.qv, Ev.AV.plain, Ev.qbd, Ev.ql, Ev.qw, Ev.qae, Ev.kill, Ev.qad, Ev.qd, Ev.qa4, Ev.qbn, Ev.qbc, Ev.qy, Ev.qb8, Ev.qj, Ev.qk, Ev.qal, Ev.qui, Ev.qk1, Ev.qiq, Ev.qhn, Ev.qfi, List.length_map, ↓Ev.qq, ↓reduceIte, List.length_cons, List.length_nil, List.getElem?_cons_zero, List.getElem?_cons_succ, List.take_succ_cons, List.take_zero, List.take_nil, List.drop_succ_cons, List.drop_zero, List.nil_append, List.head?_cons, Nat.reduceAdd, Nat.reduceEqDiff, Nat.reduceLT, reduceCtorEq, decide_false, Bool.and_self, Bool.and_true, Bool.false_eq_true, and_self, and_true, ne_eq, not_false_eq_true, not_true_eq_false, List.cons_ne_nil, Nat.zero_add, Nat.add_zero, Nat.le_refl, eq_self, Bool.and_false]
      done
end
set_option maxRecDepth 10000
theorem q3i (h : List Evt) : ∀ n : Nat, ((List.range n).map fun i => qmi h i).flatten.Perm (h.filter fun e => decide (0 ≤ e.lp ∧ e.lp < (n : Int)))
  | 0 => by
    have : h.filter (fun e => decide (0 ≤ e.lp ∧ e.lp < ((0 : Nat) : Int))) = [] := List.filter_eq_nil_iff.2 (fun e _ => by simp only [decide_eq_true_eq]; omega)
    rw [this]; exact .refl _
  | n + 1 => by
    rw [List.range_succ, List.map_append, List.flatten_append]
    refine (List.Perm.append (q3i h n) (.refl _)).trans ?_
    have e1 : h.filter (fun e => decide (0 ≤ e.lp ∧ e.lp < (n : Int))) = (h.filter fun e => decide (0 ≤ e.lp ∧ e.lp < ((n + 1 : Nat) : Int))).filter (fun e => decide (e.lp < (n : Int))) := by
      rw [List.filter_filter]
      refine List.filter_congr (fun e _ => ?_)
      rw [← Bool.decide_and]
      refine decide_eq_decide.2 ?_
      omega
    have e2 : ([qmi h n].flatten : List Evt) = (h.filter fun e => decide (0 ≤ e.lp ∧ e.lp < ((n + 1 : Nat) : Int))).filter (fun e => !decide (e.lp < (n : Int))) := by
      rw [List.filter_filter, List.flatten_cons, List.flatten_nil, List.append_nil]
      refine List.filter_congr (fun e _ => ?_)
      rw [← decide_not, ← Bool.decide_and]
      refine decide_eq_decide.2 ?_
      omega
    rw [e1, List.map_cons, List.map_nil, e2]
    exact List.filter_append_perm _ _
theorem own_perm {h : List Evt} {n : Nat} (hl : ∀ e ∈ h, 0 ≤ e.lp ∧ e.lp < (n : Int)) : ((List.range n).map fun i => qmi h i).flatten.Perm h := by
  have := q3i h n
  rwa [List.filter_eq_self.2 (fun e he => by simpa using hl e he)] at this
section
variable {c : Cfg} {s : Sim} {h : List Evt}
theorem SInv.traces (H : SInv c s h) : s.trace = (List.range c.lps.length).map fun i => qmi h i := by
  refine List.ext_getElem? (fun i => ?_)
  by_cases hi : i < c.lps.length
  · rw [H.tr i hi, List.getElem?_map, List.getElem?_range hi]; rfl
  · rw [List.getElem?_eq_none (by rw [H.trl]; omega), List.getElem?_eq_none (by simp; omega)]
theorem SInv.perm (H : SInv c s h) : s.trace.flatten.Perm h := by
  rw [H.traces]
  exact own_perm (fun e he => (H.ev e (List.mem_append_left _ he)).lp)
theorem SInv.count (H : SInv c s h) : s.trace.flatten.length = h.length := H.perm.length_eq
theorem SInv.mem (H : SInv c s h) {i : Nat} {x : List Evt} (hx : s.trace[i]? = some x) : ∀ e ∈ x, e ∈ h ∧ e.lp = i := by
  have hi := (List.getElem?_eq_some_iff.1 hx).1
  rw [H.trl] at hi
  rw [H.tr i hi] at hx; cases hx
  intro e he
  unfold qmi at he
  rw [List.mem_filter] at he
  exact ⟨he.1, by simpa using he.2⟩
theorem SInv.lt (H : SInv c s h) {i : Nat} {x : List Evt} (hx : s.trace[i]? = some x) : x.Pairwise (fun a b => qwb a b < 0) := by
  have hi := (List.getElem?_eq_some_iff.1 hx).1
  rw [H.trl] at hi
  rw [H.tr i hi] at hx; cases hx
  have h1 : (qmi h i).Sublist h := List.filter_sublist
  have h2 := List.Pairwise.sublist h1 H.ord
  have h3 := List.Pairwise.sublist h1 (List.pairwise_append.1 H.keys).1
  refine (h2.and h3).imp (fun {a b} hab => ?_)
  have := hab.2
  have h4 : ¬ qwb a b = 0 := fun e => hab.2 ((qx4 _ _).1 e).2
  have := hab.1
  unfold leE at this; omega
theorem ran (hv : Valid c) (lim : Nat) (hl : lim ≤ 60) : ∃ h, SInv c (Sim.run c lim (start c)) h ∧ h.length ≤ lim ∧ (h.length = lim ∨ (Sim.run c lim (start c)).ready c = false) := by
  obtain ⟨h, h1, h2, h3⟩ := SInv.run lim (SInv.start hv) (by simpa using hl)
  exact ⟨h, by simpa using h1, h2, h3⟩
end
set_option maxRecDepth 10000
theorem Limit_ev (a : Int) (h : 0 ≤ a ∧ a ≤ 255) : qbk (evL T) qi8 [(.v (.int .u8 a))] = some (.v (.int .i64 ((((a.toNat % 41 : Nat)) : Int)))) := by
  have hw : IntKind.i64.wrap a = a := qat (by omega) (by omega)
  have hr : a.tmod 41 = ((a.toNat % 41 : Nat) : Int) := by
    obtain ⟨n, rfl⟩ : ∃ n : Nat, a = n := ⟨a.toNat, by omega⟩
    rw [Int.tmod_eq_emod_of_nonneg (by omega)]; omega
  have h41 : ¬ (41 : Int) = 0 := by decide
  rw [qbk, qu qxb qwl]
  simp only [qmd, hw, hr, h41, Ev.qm, Ev.exec, Ev.qb, Ev.qe, Ev.qc, Ev.qaf, Ev.Opnd.ev, Ev.Env.get, Ev.Env.set, Ev.look, Ev.qn, Ev.bin_rem, Ev.ql, Ev.qw, Ev.qae, Ev.kill, Ev.qad, Ev.qd, Ev.qa4, Ev.qal, ↓Ev.qq, ↓reduceIte, List.length_cons, List.length_nil, List.take_nil, reduceCtorEq, and_self, Nat.zero_add, eq_self]
theorem ok_ev (c : Cfg) : qbk (evL T) qmp [(.agg [(.fsl ((c.lps).map lpC) false), (.fsl ((c.progs).map qbu) false), (.v (.int .i64 (c.look))), (.v (.int .i64 (c.fin))), (.v (.int .i64 (c.cap)))])] = some (.v (.bool (okB c))) := by
  have hg := qzs c
  have hr := qzz c
  rw [qbk, qu q3f q09]
  unfold okB
  cases h : qsi c with
  | true =>
    rw [h] at hg
    simp only [qpk, hg, qcg, qbh, Ev.qm, Ev.exec, Ev.qb, Ev.qe, Ev.qc, Ev.qa9, Ev.qaf, Ev.evs, Ev.Opnd.ev, Ev.Env.get, Ev.Env.set, Ev.Env.unset, Ev.look, Ev.qn, Ev.qi, Ev.qab, Ev.AV.cells, Ev.qv, Ev.AV.plain, Ev.ql, Ev.qw, Ev.qae, Ev.kill, Ev.qad, Ev.qd, Ev.qa4, Ev.qbn, Ev.qy, Ev.qj, Ev.qk, Ev.qal, ↓Ev.qq, ↓reduceIte, List.length_cons, List.length_nil, List.take_succ_cons, List.take_nil, Nat.reduceAdd, Nat.reduceEqDiff, Bool.and_self, Bool.not_true, Bool.false_eq_true, and_self, ne_eq, not_false_eq_true, List.cons_ne_nil, Nat.zero_add, Nat.le_refl, eq_self, Bool.false_and]
  | false =>
    rw [h] at hg
    simp only [qpk, hg, hr, qcg, qbh, Ev.qm, Ev.exec, Ev.qb, Ev.qe, Ev.qc, Ev.qa9, Ev.qaf, Ev.evs, Ev.Opnd.ev, Ev.Env.get, Ev.Env.set, Ev.look, Ev.qn, Ev.qi, Ev.qab, Ev.AV.cells, Ev.qv, Ev.AV.plain, Ev.qak, Ev.ql, Ev.qw, Ev.qae, Ev.kill, Ev.qad, Ev.qd, Ev.qa4, Ev.qbn, Ev.qy, Ev.qj, Ev.qk, Ev.qal, ↓Ev.qq, ↓reduceIte, List.length_cons, List.length_nil, List.take_succ_cons, List.take_nil, Nat.reduceAdd, Nat.reduceEqDiff, Bool.and_self, Bool.true_and, Bool.not_false, and_self, ne_eq, not_false_eq_true, List.cons_ne_nil, Nat.zero_add, Nat.le_refl, eq_self]
structure Good (c : Cfg) : Prop where
  h12 : Small12 c
  ok : CfgOk c
  z : q6f c = 0
  v : Valid c
theorem good_of {c : Cfg} (h : okB c = true) : Good c := by
  simp only [okB, Bool.and_eq_true, Bool.not_eq_true', decide_eq_true_eq] at h
  obtain ⟨h1, h2⟩ := h
  obtain ⟨g1, g2, g3, g4⟩ := q3w c h1
  exact ⟨⟨g1, g3⟩, ⟨by omega, by omega, fun p hp => by have := g4 p hp; omega, fun l hl => by have := g3 l hl; omega⟩, by rw [← rcfgZ_eq]; exact h2, valid_of h2⟩
def runS (c : Cfg) (lim : Nat) : Sim := Sim.run c lim (start c)
theorem Good.run {c : Cfg} (h : Good c) (lim : Nat) (hl : lim ≤ 60) : ∃ L : List (Lp × Bool), L.map Prod.fst = (runS c lim).lps ∧ (∀ x ∈ L, x.2 = true → x.1.procs = []) ∧
      qbk (evL T) qgf [(.agg [(.fsl ((c.lps).map lpC) false), (.fsl ((c.progs).map qbu) false), (.v (.int .i64 (c.look))), (.v (.int .i64 (c.fin))), (.v (.int .i64 (c.cap)))]), (.v (.int .i64 (lim)))] = some (.tup [(.fsl (((runS c lim).trace).map qkk) false), (.fsl ((L).map lpF) false), (.v (.int .i64 (errZ c (runS c lim))))]) :=
  Run_ev rfl h.h12 h.ok h.z h.v lim hl
structure RunF (c : Cfg) (s : Sim) (h : List Evt) : Prop where
  inv : SInv c s h
  len : h.length ≤ 60
theorem RunF.n {c : Cfg} {s : Sim} {h : List Evt} (H : RunF c s h) : s.trace.length = c.lps.length ∧ c.lps.length ≤ 8 := ⟨H.inv.trl, H.inv.valid.lps.2⟩
theorem RunF.flat {c : Cfg} {s : Sim} {h : List Evt} (H : RunF c s h) : s.trace.flatten.length = h.length := H.inv.count
theorem RunF.rowLen {c : Cfg} {s : Sim} {h : List Evt} (H : RunF c s h) {i : Nat} {x : List Evt} (hx : s.trace[i]? = some x) : x.length ≤ 60 := by
  have h1 := q35 s.trace (i + 1)
  rw [qt1 hx, List.length_append, H.flat] at h1
  have := H.len; omega
theorem RunF.key {c : Cfg} {s : Sim} {h : List Evt} (H : RunF c s h) {i : Nat} {x : List Evt} (hx : s.trace[i]? = some x) : ∀ e ∈ x, e.key.length ≤ 9223372036854775807 := by
  intro e he
  have := (H.inv.ev e (List.mem_append_left _ (H.inv.mem hx e he).1)).key
  have := H.len; omega
set_option maxRecDepth 100000
theorem qt6 : qbk (evL T) qj9 [] = some (.v (.bool true)) := q6y 60 (by kernel_rfl)
set_option maxRecDepth 10000
section
variable {c : Cfg} {s : Sim} {h : List Evt}
theorem rep_l2 (H : RunF c s h) (L F : List (Lp × Bool)) (i : Nat) (hi : i < c.lps.length) (y0 : Lp) (fl : Bool) (hfl : fl = true → y0.procs = []) (hy0 : (((qgm c.lps).map Prod.fst)[i]?).getD ⟨0, 0, [], 0⟩ = y0) (x : List Evt) (hx : s.trace[i]? = some x) :
    ∃ y, itB (exec (evL T) itL none qd2) (Ev.qs [2, 5, 6, 7, 9, 10, 11, 12] true 1) ⟨[(2, (.fptr [(.fsl ((c.lps).map lpC) false), (.fsl ((c.progs).map qbu) false), (.v (.int .i64 (c.look))), (.v (.int .i64 (c.fin))), (.v (.int .i64 (c.cap)))])), (5, (.v (.bool (true)))), (6, (.fsl ((s.trace).map qkk) false)), (7, (.fsl ((L).map lpF) false)), (9, (.fsl ((F).map lpF) false)), (10, (.v (.int .i64 (i)))), (11, .ptr 0 0 0 0), (12, (.v (.int .i64 ((0 : Nat)))))], []⟩ [.row 4 [lpF (y0, fl)] 0] = some y ∧
      (y.1 = .exit 2 ∧ y.2.1.marks = [] ∧ y.2.2 = [.row 4 [lpF (qo1 c y0 x, fl)] 0] ∧ Ev.look y.2.1.vars 2 = some (.fptr [(.fsl ((c.lps).map lpC) false), (.fsl ((c.progs).map qbu) false), (.v (.int .i64 (c.look))), (.v (.int .i64 (c.fin))), (.v (.int .i64 (c.cap)))]) ∧ Ev.look y.2.1.vars 5 = some (.v (.bool (true))) ∧ Ev.look y.2.1.vars 6 = some (.fsl ((s.trace).map qkk) false) ∧ Ev.look y.2.1.vars 7 = some (.fsl ((L).map lpF) false) ∧ Ev.look y.2.1.vars 9 = some (.fsl ((F).map lpF) false) ∧ Ev.look y.2.1.vars 10 = some (.v (.int .i64 (i))) ∧ Ev.look y.2.1.vars 11 = some (.ptr 0 0 0 0)) := by
  have hxl := H.rowLen hx
  have hxo : x = qmi h i := by rw [H.inv.tr i hi] at hx; cases hx; rfl
  have key := qjm (f := exec (evL T) itL none qd2) (s := Ev.qs [2, 5, 6, 7, 9, 10, 11, 12] true 1) (α := Unit)
    (fun k _ => ⟨[(2, (.fptr [(.fsl ((c.lps).map lpC) false), (.fsl ((c.progs).map qbu) false), (.v (.int .i64 (c.look))), (.v (.int .i64 (c.fin))), (.v (.int .i64 (c.cap)))])), (5, (.v (.bool (true)))), (6, (.fsl ((s.trace).map qkk) false)), (7, (.fsl ((L).map lpF) false)), (9, (.fsl ((F).map lpF) false)), (10, (.v (.int .i64 (i)))), (11, .ptr 0 0 0 0), (12, (.v (.int .i64 (k))))], []⟩) (fun k _ => [.row 4 [lpF (qo1 c y0 (x.take k), fl)] 0])
    (fun k _ => fl = true → (qo1 c y0 (x.take k)).procs = []) x.length
    (fun y => y.1 = .exit 2 ∧ y.2.1.marks = [] ∧ y.2.2 = [.row 4 [lpF (qo1 c y0 x, fl)] 0] ∧ Ev.look y.2.1.vars 2 = some (.fptr [(.fsl ((c.lps).map lpC) false), (.fsl ((c.progs).map qbu) false), (.v (.int .i64 (c.look))), (.v (.int .i64 (c.fin))), (.v (.int .i64 (c.cap)))]) ∧ Ev.look y.2.1.vars 5 = some (.v (.bool (true))) ∧ Ev.look y.2.1.vars 6 = some (.fsl ((s.trace).map qkk) false) ∧ Ev.look y.2.1.vars 7 = some (.fsl ((L).map lpF) false) ∧ Ev.look y.2.1.vars 9 = some (.fsl ((F).map lpF) false) ∧ Ev.look y.2.1.vars 10 = some (.v (.int .i64 (i))) ∧ Ev.look y.2.1.vars 11 = some (.ptr 0 0 0 0)) ?_ ?_ 0 () (Nat.zero_le _) hfl
  · exact key
  · rintro k _ hk hp
    obtain ⟨e, he⟩ : ∃ e, x[k]? = some e := ⟨_, List.getElem?_eq_getElem hk⟩
    have R := H.inv.rdy i hi k e (by rw [← hxo]; exact he)
    rw [hy0, ← hxo] at R
    have ex := q77 R fl hp
    have g := H.inv.ev e (List.mem_append_left _ (H.inv.mem hx e (List.mem_of_getElem? he)).1)
    have e1 : qo1 c y0 (x.take (k + 1)) = (qck c (qo1 c y0 (x.take k)) e).lp := by
      unfold qo1; rw [qer he, List.foldl_append]; rfl
    have hp2 : fl = true → (qo1 c y0 (x.take (k + 1))).procs = [] := fun hf => by rw [e1]; exact q2o (hp hf)
    have hkl := g.key
    have hhl := H.len
    have g1 : ¬ e.time < 0 := by have := g.time; omega
    have g2 : ¬ e.time > 1152921504606846976 := by have := g.time; omega
    have g3 : ¬ e.proc < 0 := by have := g.proc; omega
    have g4 : ¬ e.proc ≥ 8 := by have := g.proc; omega
    have g5 : ¬ (e.key.length : Int) > 100 := by omega
    have g6 := g.arg
    have hk' : (k : Int) < (x.length : Int) := by omega
    have hw : IntKind.i64.wrap ((k : Int) + 1) = ((k + 1 : Nat) : Int) := by rw [qat (by omega) (by omega)]; simp
    refine .inl ⟨(), ?_, hp2⟩
    rw [e1]
    generalize qck c (qo1 c y0 (x.take k)) e = r at ex
    generalize qo1 c y0 (x.take k) = q at ex
    obtain ⟨et, ek, el, ei, ep, ea⟩ := e
    simp only at g1 g2 g3 g4 g5 g6 ex
    by_cases h2 : ei = 2
    · have g7 : ¬ ea < 0 := by have := g6 h2; omega
      have g8 : ¬ ea ≥ 16 := by have := g6 h2; omega
      simp only [qd2, Int.natCast_nonneg, Int.toNat_natCast, List.getElem?_map, Option.map_some, hx, he, hk', g1, g2, g3, g4, g5, g7, g8, h2, lpF, Evt.r, qkk, qcg, qbh, qax, qar, Ev.exec, Ev.qb, Ev.qe, Ev.qc, Ev.qa9, Ev.qaf, Ev.evs, Ev.Opnd.ev, Ev.Env.get, Ev.Env.set, Ev.look, Ev.qi, Ev.qab, Ev.AV.cells, Ev.AV.uc, Ev.qv, Ev.AV.plain, Ev.qak, Ev.qo, Ev.qau, Ev.qbz, Ev.qs, Ev.keep, Ev.qa4, Ev.qbn, Ev.qy, Ev.qj, Ev.qk, List.length_map, ↓Ev.qq, Ev.it1, ↓reduceIte, List.length_cons, List.length_nil, List.getElem?_cons_zero, List.take_succ_cons, List.take_zero, List.take_nil, List.drop_succ_cons, List.drop_zero, List.nil_append, List.head?_cons, Nat.reduceAdd, Nat.reduceEqDiff, decide_true, decide_false, Bool.and_self, Bool.false_eq_true, and_self, ne_eq, not_false_eq_true, List.cons_ne_nil, Nat.zero_add, Nat.le_refl, eq_self] at ex ⊢
      simp only [hw, ex, qcg, qbh, quj, qp3, qar, Ev.look, Ev.qv, Ev.AV.plain, Ev.qaj, Ev.qai, Ev.qaa, Ev.qd, Ev.SObj.lo, Ev.qa4, Ev.qy, Ev.qdf, Ev.qjv, Ev.qj, Ev.qk, Ev.qac, Ev.qaq, ↓reduceIte, List.length_cons, List.length_nil, List.getElem?_cons_zero, List.getElem?_cons_succ, List.take_succ_cons, List.take_zero, List.take_nil, List.drop_succ_cons, List.drop_zero, List.drop_nil, List.cons_append, List.nil_append, List.append_nil, List.set_cons_zero, List.set_cons_succ, Nat.reduceAdd, Nat.reduceEqDiff, decide_true, Bool.and_self, and_self, Nat.zero_add, Nat.lt_add_one, Nat.le_refl, eq_self]
    · simp only [qd2, Int.natCast_nonneg, Int.toNat_natCast, List.getElem?_map, Option.map_some, hx, he, hk', hw, g1, g2, g3, g4, g5, h2, ex, lpF, Evt.r, qkk, qcg, qbh, quj, qax, qp3, qar, Ev.exec, Ev.qb, Ev.qe, Ev.qc, Ev.qa9, Ev.qaf, Ev.evs, Ev.Opnd.ev, Ev.Env.get, Ev.Env.set, Ev.Env.unset, Ev.look, Ev.qi, Ev.qab, Ev.AV.cells, Ev.qv, Ev.AV.plain, Ev.qaj, Ev.qak, Ev.qo, Ev.qau, Ev.qbz, Ev.qs, Ev.keep, Ev.qai, Ev.qaa, Ev.qd, Ev.SObj.lo, Ev.qa4, Ev.qbn, Ev.qy, Ev.qdf, Ev.qjv, Ev.qj, Ev.qk, Ev.qac, Ev.qaq, List.length_map, ↓Ev.qq, Ev.it1, ↓reduceIte, List.length_cons, List.length_nil, List.getElem?_cons_zero, List.getElem?_cons_succ, List.take_succ_cons, List.take_zero, List.take_nil, List.drop_succ_cons, List.drop_zero, List.drop_nil, List.cons_append, List.nil_append, List.append_nil, List.set_cons_zero, List.set_cons_succ, List.head?_cons, Nat.reduceAdd, Nat.reduceEqDiff, decide_true, decide_false, Bool.and_self, Bool.false_eq_true, and_self, ne_eq, not_false_eq_true, List.cons_ne_nil, Nat.zero_add, Nat.lt_add_one, Nat.le_refl, eq_self]
  · rintro _ _
    simp only [List.take_length]
    simp only [qd2, Int.natCast_nonneg, Int.toNat_natCast, List.getElem?_map, Option.map_some, hx, Int.lt_irrefl, qkk, Ev.exec, Ev.qb, Ev.qe, Ev.qc, Ev.qaf, Ev.Opnd.ev, Ev.Env.get, Ev.Env.set, Ev.look, Ev.qi, Ev.qab, Ev.qo, List.length_map, ↓Ev.qq, Ev.it1, ↓reduceIte, List.length_cons, List.length_nil, List.head?_cons, Nat.reduceEqDiff, decide_false, Bool.false_eq_true, Nat.zero_add, eq_self]
    exact ⟨_, rfl, rfl, rfl, rfl, rfl, rfl, rfl, rfl, rfl, rfl, rfl⟩
theorem rep_l1 (H : RunF c s h) (h12 : Small12 c) (L : List (Lp × Bool)) (hL : L.map Prod.fst = s.lps) :
    ∃ y, itB (exec (evL T) itL none qfx) (Ev.qs [2, 5, 6, 7, 9, 10] true 0) ⟨[(2, (.fptr [(.fsl ((c.lps).map lpC) false), (.fsl ((c.progs).map qbu) false), (.v (.int .i64 (c.look))), (.v (.int .i64 (c.fin))), (.v (.int .i64 (c.cap)))])), (5, (.v (.bool (true)))), (6, (.fsl ((s.trace).map qkk) false)), (7, (.fsl ((L).map lpF) false)), (9, (.fsl (((qgm c.lps)).map lpF) false)), (10, (.v (.int .i64 ((0 : Nat)))))], []⟩ [] = some y ∧
      (y.1 = .exit 0 ∧ y.2.1.marks = [] ∧ y.2.2 = [] ∧ Ev.look y.2.1.vars 5 = some (.v (.bool (true)))) := by
  obtain ⟨htl, hn8⟩ := H.n
  refine itB_each s.trace (fun i => ⟨[(2, (.fptr [(.fsl ((c.lps).map lpC) false), (.fsl ((c.progs).map qbu) false), (.v (.int .i64 (c.look))), (.v (.int .i64 (c.fin))), (.v (.int .i64 (c.cap)))])), (5, (.v (.bool (true)))), (6, (.fsl ((s.trace).map qkk) false)), (7, (.fsl ((L).map lpF) false)), (9, (.fsl (((qgm c.lps)).map lpF) false)), (10, (.v (.int .i64 (i))))], []⟩) [] _ ?_ ?_
  · intro i x hi hx
    have hin : i < c.lps.length := by omega
    have hi' : (i : Int) < (s.trace.length : Int) := by omega
    have hw : IntKind.i64.wrap ((i : Int) + 1) = ((i + 1 : Nat) : Int) := by rw [qat (by omega) (by omega)]; simp
    obtain ⟨l, hl⟩ : ∃ l, c.lps[i]? = some l := ⟨_, List.getElem?_eq_getElem hin⟩
    have hst : (qgm c.lps)[i]? = some (q68 (l.map stP)) := by simp only [qgm, qyg, List.getElem?_map, hl, Option.map_some]
    obtain ⟨z, hz⟩ : ∃ z, L[i]? = some z := ⟨_, List.getElem?_eq_getElem (by have := congrArg List.length hL; rw [List.length_map, H.inv.lpl] at this; omega)⟩
    have hzs : s.lps[i]? = some z.1 := by rw [← hL, List.getElem?_map, hz]; rfl
    have hy0 : (((qgm c.lps).map Prod.fst)[i]?).getD ⟨0, 0, [], 0⟩ = (q68 (l.map stP)).1 := by rw [List.getElem?_map, hst]; rfl
    have hrep := H.inv.rep i hin
    rw [hzs, hy0] at hrep
    have hxo : qmi h i = x := by rw [H.inv.tr i hin] at hx; cases hx; rfl
    rw [hxo] at hrep
    have hre := Option.some.inj hrep
    have hpz := H.inv.lp z.1 (List.mem_of_getElem? hzs)
    have hh := H.len
    have shz : z.1.Short := ⟨by have := hpz.1; omega, fun q hq => by have := (hpz.2 q hq).2.2.2.2; omega⟩
    obtain ⟨⟨y, ev, σ⟩, k1, k2, k3, k4, k5, k6, k7, k8, k9, k10, k11⟩ := rep_l2 H L (qgm c.lps) i hin (q68 (l.map stP)).1 (q68 (l.map stP)).2 (fun hf => by simpa [q68] using hf) hy0 x hx
    simp only [Int.ofNat_zero] at k1 k2 k3 k4 k5 k6 k7 k8 k9 k10 k11
    rw [← hre] at k4
    subst k2; subst k4
    have sl := q55 z.1 z.1 (q68 (l.map stP)).2 z.2 shz shz
    rw [decide_eq_true rfl] at sl
    generalize q68 (l.map stP) = st at *
    obtain ⟨st1, st2⟩ := st
    obtain ⟨z1, z2⟩ := z
    simp only [lpF] at k1 sl
    simp only [qfx, Int.natCast_nonneg, Int.toNat_natCast, List.getElem?_map, Option.map_some, hi', hw, hst, hz, sl, k1, k3, k5, k6, k7, k8, k9, k10, k11, lpF, qcg, qbh, quj, qp3, qar, Ev.exec, Ev.qb, Ev.qe, Ev.qc, Ev.qa9, Ev.qaf, Ev.evs, Ev.Opnd.ev, Ev.Env.get, Ev.Env.set, Ev.look, Ev.qi, Ev.qab, Ev.AV.cells, Ev.qv, Ev.AV.plain, Ev.qaj, Ev.qo, Ev.qs, Ev.keep, Ev.qai, Ev.qaa, Ev.qd, Ev.SObj.lo, Ev.qa4, Ev.qbn, Ev.qy, Ev.qdf, Ev.qjv, Ev.qj, Ev.qk, Ev.qac, Ev.qaq, List.length_map, ↓Ev.qq, ↓Ev.qan, Ev.it1, ↓reduceIte, List.length_cons, List.length_nil, List.getElem?_cons_zero, List.take_succ_cons, List.take_zero, List.take_nil, List.drop_succ_cons, List.drop_zero, List.drop_nil, List.nil_append, List.append_nil, List.set_cons_zero, Nat.reduceAdd, Nat.reduceEqDiff, decide_true, Bool.and_self, Bool.not_true, Bool.false_eq_true, and_self, ne_eq, not_false_eq_true, List.cons_ne_nil, Nat.zero_add, Nat.lt_add_one, Nat.le_refl, eq_self]
  · simp only [qfx, Int.lt_irrefl, Ev.exec, Ev.qb, Ev.qe, Ev.qc, Ev.qaf, Ev.Opnd.ev, Ev.Env.get, Ev.Env.set, Ev.look, Ev.qo, List.length_map, ↓Ev.qq, Ev.it1, ↓reduceIte, Nat.reduceEqDiff, decide_false, Bool.false_eq_true, eq_self]
    exact ⟨_, rfl, rfl, rfl, rfl, rfl⟩
end
theorem qul (c : Cfg) (a : Int) (ha : 0 ≤ a ∧ a ≤ 255) : qbk (evL T) qfv [(.agg [(.fsl ((c.lps).map lpC) false), (.fsl ((c.progs).map qbu) false), (.v (.int .i64 (c.look))), (.v (.int .i64 (c.fin))), (.v (.int .i64 (c.cap)))]), (.v (.int .u8 a))] = some (.v (.bool (true))) := by
  have hok := ok_ev c
  rw [qbk, qu qpy qkb]
  cases ho : okB c with
  | false =>
    rw [ho] at hok
    simp only [qfu, qt6, hok, qcg, qbh, Ev.qm, Ev.exec, Ev.qb, Ev.qe, Ev.qc, Ev.qa9, Ev.qaf, Ev.evs, Ev.Opnd.ev, Ev.Env.get, Ev.Env.set, Ev.look, Ev.qn, Ev.qi, Ev.qab, Ev.AV.cells, Ev.qv, Ev.AV.plain, Ev.ql, Ev.qw, Ev.qae, Ev.kill, Ev.qad, Ev.qd, Ev.qa4, Ev.qbn, Ev.qy, Ev.qj, Ev.qk, Ev.qal, ↓Ev.qq, ↓reduceIte, List.length_cons, List.length_nil, List.take_succ_cons, List.take_nil, Nat.reduceAdd, Nat.reduceEqDiff, Bool.and_self, Bool.not_false, and_self, ne_eq, not_false_eq_true, List.cons_ne_nil, Nat.zero_add, Nat.le_refl, eq_self]
  | true =>
    rw [ho] at hok
    have G := good_of ho
    have hL := Limit_ev a ha
    obtain ⟨n, hn⟩ : ∃ n : Nat, n = a.toNat % 41 := ⟨_, rfl⟩
    rw [← hn] at hL
    obtain ⟨h, H, Hl, _⟩ := ran G.v n (by omega)
    obtain ⟨L1, hL1, _, r1⟩ := G.run n (by omega)
    change SInv c (runS c n) h at H
    have F : RunF c (runS c n) h := ⟨H, by omega⟩
    have rs := qxo c G.h12
    obtain ⟨⟨y, ev, σ⟩, k1, k2, k3, k4, k5⟩ := rep_l1 F G.h12 L1 hL1
    simp only [Int.ofNat_zero] at k1 k2 k3 k4 k5
    subst k2; subst k4
    have htl := H.trl
    have hsl : (qgm c.lps).length = c.lps.length := by simp [qgm, qyg]
    have hll : L1.length = c.lps.length := by have := congrArg List.length hL1; rw [List.length_map, H.lpl] at this; exact this
    simp only [qfu, qt6, hok, hL, r1, rs, htl, hsl, hll, k1, k3, k5, qcg, qbh, quj, qp3, Ev.qm, Ev.exec, Ev.qb, Ev.qe, Ev.qc, Ev.qa9, Ev.qaf, Ev.evs, Ev.Opnd.ev, Ev.Env.get, Ev.Env.set, Ev.look, Ev.qn, Ev.qi, Ev.qab, Ev.AV.cells, Ev.qv, Ev.AV.plain, Ev.qbd, Ev.ql, Ev.qw, Ev.qae, Ev.kill, Ev.qad, Ev.qs, Ev.keep, Ev.qai, Ev.qaa, Ev.qd, Ev.qa4, Ev.qbn, Ev.qy, Ev.qdf, Ev.qj, Ev.qk, Ev.qal, List.length_map, ↓Ev.qq, ↓Ev.qan, ↓reduceIte, List.length_cons, List.length_nil, List.getElem?_cons_zero, List.getElem?_cons_succ, List.take_succ_cons, List.take_nil, Nat.reduceAdd, Nat.reduceEqDiff, reduceCtorEq, decide_false, Bool.and_self, Bool.not_true, Bool.false_eq_true, and_self, ne_eq, not_false_eq_true, not_true_eq_false, List.cons_ne_nil, Nat.zero_add, Nat.le_refl, eq_self]
end Go.Proofs.Ythkjkdbjgpeigaa.K
namespace Go.Ev
def Ctx.nil : Ctx := { n := 0, loc := fun _ => ⟨0, 0, 0, 0⟩, own := fun _ => False, far := fun _ => False }
theorem SR.nil (P : Program) (w : World) : SR P Ctx.nil [] w where
  len := rfl
  obj o ob h := by simp at h
  blk o h := absurd h (Nat.not_lt_zero _)
  inj o o' h := absurd h (Nat.not_lt_zero _)
  ownlt b h := h.elim
  farlt b h := h.elim
  sep b h := h.elim
section
variable (P : Program) {H : Type} (enc : TypeId × Value → H)
def qj8 (t : TypeId) {τ : Type} (c : τ → List AV) (ok : τ → Prop) : Prop :=
  ∀ (w : World) (fuel : Nat) (cs : List Value) (d : DataW H) (ps : List MemPlace), DataW.trod enc P w 0 (fun _ => true) true fuel t cs = some (d, ps) → ∃ x : τ, ok x ∧ VRs Ctx.nil w (c x) cs
variable {P enc}
theorem VRs.one {Γ : Ctx} {w : World} {a : AV} {v : Value} (h : VR Γ w a v) : VRs Γ w [a] [v] := by
  simp only [VRs]; exact ⟨v, [], rfl, h, rfl⟩
theorem q0f {t : TypeId} {k : IntKind} (hu : P.underlying t = some (.int k)) : qj8 P enc t (fun n : Int => [.v (.int k n)]) (fun n => (Lit.int k n).wf = true) := by
  intro w fuel cs d ps h
  cases fuel with
  | zero => simp [DataW.trod] at h
  | succ fuel =>
    unfold DataW.trod at h
    rw [hu] at h
    split at h <;> rename_i heq <;> first | (cases heq; done) | (cases h; done) | skip
    cases heq
    split at h
    · rename_i hk
      obtain ⟨rfl, hwf⟩ := hk
      exact ⟨_, hwf, VRs.one (by simp only [VR])⟩
    · cases h
variable (P enc) in
def qty (off : Nat) (fs : List Field) {τ : Type} (c : τ → List AV) (ok : τ → Prop) (tot : Nat) : Prop :=
  ∀ (w : World) (fuel : Nat) (cs : List Value), (∀ (i : Nat) (f : Field), fs[i]? = some f → ∃ x, DataW.trod enc P w 0 (fun _ => true) true fuel f.type ((cs.drop f.offset).take (P.cellsOf f.type)) = some x) →
    ∃ x : τ, ok x ∧ VRs Ctx.nil w (c x) ((cs.drop off).take tot)
theorem qq5 (off : Nat) : qty P enc off [] (fun _ : Unit => []) (fun _ => True) 0 := fun w fuel cs _ => ⟨(), trivial, by simp [VRs]⟩
theorem qe5 {off : Nat} {f : Field} {fs : List Field} {α β : Type} {c1 : α → List AV} {ok1 : α → Prop} {c2 : β → List AV} {ok2 : β → Prop} {tot : Nat} {sz : Nat} (ho : f.offset = off) (hs : P.cellsOf f.type = sz)
    (h1 : qj8 P enc f.type c1 ok1) (h2 : qty P enc (off + sz) fs c2 ok2 tot) : qty P enc off (f :: fs) (fun x : α × β => c1 x.1 ++ c2 x.2) (fun x => ok1 x.1 ∧ ok2 x.2) (sz + tot) := by
  intro w fuel cs h
  obtain ⟨⟨d, ps⟩, h3⟩ := h 0 f rfl
  obtain ⟨x, k1, k2⟩ := h1 w fuel _ d ps h3
  obtain ⟨y, k3, k4⟩ := h2 w fuel cs fun i g hg => h (i + 1) g (by simpa using hg)
  refine ⟨(x, y), ⟨k1, k3⟩, ?_⟩
  rw [List.take_add, List.drop_drop]
  rw [ho, hs] at k2
  exact k2.append k4
theorem q17 {t : TypeId} {fs : Array Field} {τ : Type} {c : τ → List AV} {ok : τ → Prop} (hu : P.underlying t = some (.struct fs)) (h : qty P enc 0 fs.toList c ok (P.cellsOf t)) : qj8 P enc t c ok := by
  intro w fuel cs d ps ht
  obtain ⟨xs, n, rfl, _, hl, hx, hall⟩ := DataW.trod_struct hu ht
  obtain ⟨x, k1, k2⟩ := h w n cs fun i f hf => by
    have hf' : fs[i]? = some f := by simpa using hf
    have := hall i f hf'
    have hlt : i < xs.length := by rw [hx]; exact (Array.getElem?_eq_some_iff.1 hf').1
    exact ⟨xs[i], by rw [this, List.getElem?_eq_getElem hlt]⟩
  refine ⟨x, k1, ?_⟩
  rw [List.drop_zero, ← hl, List.take_length] at k2
  exact k2
theorem qon {t : TypeId} {fs : Array Field} {τ : Type} {c : τ → List AV} {ok : τ → Prop} {n : Nat} (hu : P.underlying t = some (.struct fs)) (h : qty P enc 0 fs.toList c ok n) (hn : P.cellsOf t = n) : qj8 P enc t c ok := q17 hu (by rw [hn]; exact h)
theorem qj8.map {t : TypeId} {α β : Type} {c : α → List AV} {ok : α → Prop} {c' : β → List AV} {ok' : β → Prop} (g : α → β) (h : qj8 P enc t c ok) (hc : ∀ x, c' (g x) = c x) (ho : ∀ x, ok x → ok' (g x)) : qj8 P enc t c' ok' := by
  intro w fuel cs d ps ht
  obtain ⟨x, h1, h2⟩ := h w fuel cs d ps ht
  exact ⟨g x, ho x h1, by rw [hc]; exact h2⟩
theorem qyn {τ : Type} {Q : Nat → τ → Prop} : ∀ (n : Nat), (∀ i, i < n → ∃ x, Q i x) → ∃ xs : List τ, xs.length = n ∧ ∀ (i : Nat) (x : τ), xs[i]? = some x → Q i x
  | 0, _ => ⟨[], rfl, by simp⟩
  | n + 1, h => by
    obtain ⟨xs, h1, h2⟩ := qyn n fun i hi => h i (by omega)
    obtain ⟨x, hx⟩ := h n (by omega)
    refine ⟨xs ++ [x], by simp [h1], fun i y hy => ?_⟩
    rw [List.getElem?_append] at hy
    split at hy
    · exact h2 i y hy
    · rename_i hi
      have hlt : i - xs.length < 1 := by
        have := (List.getElem?_eq_some_iff.1 hy).1
        simpa using this
      have : i = n := by omega
      subst this
      rw [h1, Nat.sub_self] at hy
      simp at hy; subst hy; exact hx
theorem q20 {Γ : Ctx} {w : World} {sz : Nat} {τ : Type} {c : τ → List AV} : ∀ (xs : List τ) (get : Nat → Option Value), (∀ (i : Nat) (x : τ), xs[i]? = some x → qam Γ w (c x) (fun j => get (j + i * sz))) → qf3 Γ w sz (xs.map c) get
  | [], _, _ => by simp [qf3]
  | x :: xs, get, h => by
    simp only [List.map_cons, qf3]
    refine ⟨by simpa using h 0 x (by simp), q20 xs _ fun i y hy => ?_⟩
    refine (h (i + 1) y (by simpa using hy)).congr fun j => ?_
    congr 1
    rw [Nat.add_mul]; omega
theorem qn8 {t e : TypeId} {sz : Nat} {τ : Type} {c : τ → List AV} {ok : τ → Prop} (hu : P.underlying t = some (.slice e)) (hs : P.cellsOf e = sz) (h0 : 0 < sz) (hc : ∀ x, (c x).length = sz) (h : qj8 P enc e c ok) :
    qj8 P enc t (fun xs : List τ => [.fsl (xs.map c) false]) (fun xs => (∀ x ∈ xs, ok x) ∧ xs.length ≤ maxLen) := by
  intro w fuel cs d ps ht
  rcases DataW.trod_slice hu ht with ⟨rfl, _⟩ | ⟨a, len, cap, elems, rest, n, rfl, rfl, _, _, hle, hcap, hel, hall, _⟩
  · refine ⟨[], by simp, VRs.one ?_⟩
    simp only [VR]
    exact ⟨none, 0, rfl, by simp, fun h => (by cases h), .inl rfl⟩
  · have hex : ∀ i, i < len → ∃ x : τ, ok x ∧ ∃ vs, w.cells? 0 (a.add (i * sz)) sz = some vs ∧ VRs Ctx.nil w (c x) vs := by
      intro i hi
      have hb := hall i hi
      rw [List.getElem?_eq_getElem (by omega), Option.bind_eq_some_iff] at hb
      obtain ⟨vs, k1, k2⟩ := hb
      obtain ⟨x, k3, k4⟩ := h w n vs _ _ k2
      rw [hs] at k1
      exact ⟨x, k3, vs, k1, k4⟩
    obtain ⟨xs, h4, h5⟩ := qyn (Q := fun i x => ok x ∧ ∃ vs, w.cells? 0 (a.add (i * sz)) sz = some vs ∧ VRs Ctx.nil w (c x) vs) len hex
    refine ⟨xs, ⟨fun x hx => ?_, by omega⟩, VRs.one ?_⟩
    · obtain ⟨i, hi, rfl⟩ := List.mem_iff_getElem.1 hx
      exact (h5 i _ (by simp [hi])).1
    · simp only [VR]
      refine ⟨some a, cap, by simp [h4], by simp [h4]; omega, fun h => (by cases h), ?_⟩
      by_cases hx0 : xs = []
      · left; simp [hx0]
      · right
        have hlen0 : 0 < xs.length := List.length_pos_iff.2 hx0
        have hcell : ∀ (i : Nat) (x : τ), xs[i]? = some x → ∀ j, j < sz → ∃ v, w.cell? ((a.add (i * sz)).add j) = some v := by
          intro i x hx j hj
          obtain ⟨_, vs, k1, k2⟩ := h5 i x hx
          obtain ⟨_, k3, k4⟩ := World.cells?_some k1
          exact ⟨vs[j]'(by omega), by rw [k4 j hj, List.getElem?_eq_getElem (by omega)]⟩
        obtain ⟨v0, hv0⟩ := hcell 0 xs[0] (by simp [hlen0]) 0 h0
        obtain ⟨b, off, spot⟩ := a
        have hspot : spot = none := by simpa [Addr.add] using World.cell?_spot hv0
        subst hspot
        have hblt : b < w.heap.size := by
          rw [Addr.add_lit, Addr.add_lit] at hv0
          unfold World.cell? at hv0
          cases hh : w.heap[b]? with
          | none => rw [hh] at hv0; simp at hv0
          | some o => exact (Array.getElem?_eq_some_iff.1 hh).1
        refine ⟨b, off, sz, rfl, ⟨hblt, id, id⟩, h0, ?_, ?_⟩
        · intro e he
          obtain ⟨x, _, rfl⟩ := List.mem_map.1 he
          exact hc x
        · refine q20 xs _ fun i x hx => ?_
          obtain ⟨_, vs, k1, k2⟩ := h5 i x hx
          obtain ⟨_, k3, k4⟩ := World.cells?_some k1
          refine qam.of_list k2 fun j v hj => ?_
          have hjl := (List.getElem?_eq_some_iff.1 hj).1
          have := k4 j (by omega)
          rw [hj, Addr.add_lit, Addr.add_lit] at this
          rw [← this]
          congr 2
          omega
end
end Go.Ev
namespace Go.Ev
open Go.RowKit (Below)
open Go.ChangeShapes Go.WideShapes Go.ChangeAt Go.RowKit
variable {H : Type} {enc : TypeId × Value → H} {P : Program}
theorem Ext.below {w w' : World} {Γ' : Ctx} (x : Ext Ctx.nil Γ' w w') : Below w.heap.size w w' := ⟨x.os, x.tape, x.output, x.size, fun k hk => x.same k hk id⟩
theorem qtt (hl : laidOutB P = true) {w w' : World} (hb : Below w.heap.size w w') {sp : Nat → Bool} : ∀ {ts : List TypeId} {vs : List Value} {ds : List (DataW H)} {ps : List MemPlace},
    (∀ t ∈ ts, P.readableRec t = true ∧ t < P.types.size) → DataW.TrodAll enc P w 0 (fun _ => true) true ts vs ds ps → (∀ p ∈ ps, p.block < w.heap.size) → (∀ p ∈ ps, sp p.block = true) → DataW.TrodAll enc P w' 0 sp true ts vs ds ps
  | [], [], [], ps, _, h, _, _ => h
  | t :: ts, v :: vs, d :: ds, ps, ht, ⟨p, q, h1, h2, e⟩, hlt, hs => by
    subst e
    obtain ⟨r1, r2⟩ := ht t (by simp)
    exact ⟨p, q, WideElems.Trod_stays hl r1 r2 h1 (fun x hx => hb.same (hlt x (List.mem_append_left _ hx))) (fun x hx => hs x (List.mem_append_left _ hx)),
      qtt hl hb (fun u hu => ht u (by simp [hu])) h2 (fun x hx => hlt x (List.mem_append_right _ hx)) (fun x hx => hs x (List.mem_append_right _ hx)), rfl⟩
  | [], _ :: _, _, _, _, h, _, _ => h.elim
  | [], [], _ :: _, _, _, h, _, _ => h.elim
  | _ :: _, [], _, _, _, h, _, _ => h.elim
  | _ :: _, _ :: _, [], _, _, h, _, _ => h.elim
theorem frz_bool {σ : qx} {d : Nat} {a : AV} {b : Bool} : frz σ (d + 1) a = some (.v (.bool b)) → a = .v (.bool b) := by
  intro h
  simp only [frz] at h
  split at h
  · cases h; rfl
  · cases a with
    | v x => cases h; rfl
    | sl o g off len c =>
      simp only at h
      split at h
      · split at h
        · rw [Option.bind_eq_some_iff] at h; obtain ⟨_, _, h⟩ := h; cases h
        · cases h
      · cases h
    | ptr o g i off =>
      simp only at h
      split at h
      · split at h
        · rw [Option.bind_eq_some_iff] at h; obtain ⟨_, _, h⟩ := h
          rw [Option.bind_eq_some_iff] at h; obtain ⟨_, _, h⟩ := h; cases h
        · cases h
      · cases h
    | agg cs => simp only [Option.bind_eq_some_iff] at h; obtain ⟨_, _, h⟩ := h; cases h
    | tup cs => simp only [Option.bind_eq_some_iff] at h; obtain ⟨_, _, h⟩ := h; cases h
    | fsl es c => simp only [Option.bind_eq_some_iff] at h; obtain ⟨_, _, h⟩ := h; cases h
    | fptr cs => simp only [Option.bind_eq_some_iff] at h; obtain ⟨_, _, h⟩ := h; cases h
    | fn f a b => simp only [Option.bind_eq_some_iff] at h; obtain ⟨_, _, _, _, h⟩ := h; cases h
    | yld o => cases h
    | mp o => cases h
theorem q51 {T : Tab} (hT : TabOk P T) {f : Nat} {cf : CFunc} (hc : T.code f = some cf) {as_ : List AV} {b : Bool} (h : qbk (evL T) f as_ = some (.v (.bool b))) {W : World} {args : Array Value} (hv : VRs Ctx.nil W as_ args.toList) :
    Calls P f args W fun e W' => e = .returned (.bool b) ∧ Below W.heap.size W W' := by
  unfold qbk at h
  rw [Option.bind_eq_some_iff] at h
  obtain ⟨⟨r, σ⟩, h1, h2⟩ := h
  obtain rfl := frz_bool (d := 5) h2
  have hn := evL_ok hT f as_ [] _ σ h1 Ctx.nil W args.toList (SR.nil P W) hv
  rw [Array.toArray_toList, hT.enter hc] at hn
  refine (callsIn_wide.1 hn).mono fun e W' he => ?_
  cases e with
  | returned v =>
    obtain ⟨Γ', k1, _, k3⟩ := he
    simp only [VR] at k1
    exact ⟨by rw [k1], k3.below⟩
  | panicked _ => exact he.elim
  | outgrown => exact he.elim
theorem q21 {f : Func} {s : ChangeSpec} {apart fresh handsOn again : Bool} {W W' : World} {args : Array Value} {ds gs : List (DataW H)} {before : List MemPlace} {tb : TypeId}
    (hvars : s.vars = []) (hspec : s.fn H (ds ++ gs) = { results := [.lit (.bool true)], args := ds }) (hr : f.resultTypes = #[tb]) (htb : P.underlying tb = some .bool) (hl : laidOutB P = true)
    (hts : ∀ t ∈ f.params.toList, P.readableRec t = true ∧ t < P.types.size)
    (hW : DataW.Whole enc P f.params.toList s.vars apart W args.toList ds gs before) (hb : Below W.heap.size W W') : s.post enc P f apart fresh handsOn again W args (.bool true) W' := by
  have hlt := hW.lt
  have hW' := hW
  obtain ⟨p, q, hA, hV, rfl, hz, hnd⟩ := hW
  rw [hvars] at hV
  obtain ⟨rfl, rfl⟩ := trodVars_none hV
  have hargs : ∀ sp : Nat → Bool, (∀ x ∈ p, sp x.block = true) → DataW.TrodAll enc P W' 0 sp true f.params.toList args.toList ds p := fun sp hs => qtt hl hb hts hA (fun x hx => hlt x (by simp [hx])) hs
  have hres : ∀ (bb : Nat) (sp : Nat → Bool) (hd : Bool), DataW.TrodAll enc P W' bb sp hd f.resultTypes.toList ((Value.bool true).resultList f.resultTypes.size) [.lit (.bool true)] [] := fun bb sp hd => by
    rw [hr]
    exact trodAll_mk1 (shut_bool htb true)
  refine ⟨ds, [], p ++ [], [], p, [], hW', ?_, ?_, ?_, hb.frame _, fun _ => ⟨?_, ?_⟩⟩
  · rw [hspec]; exact hres _ _ _
  · rw [hspec]; exact hargs _ fun x hx => by simpa using hlt x (by simp [hx])
  · rw [hspec, hvars]; rfl
  · exact ok_one hr rfl (okWide_bool_mk htb true)
  · refine ⟨[.lit (.bool true)] ++ ds, [], ([] ++ p) ++ [], ⟨[] ++ p, [], trodAll_append (hargs _ (fun _ _ => rfl)) (hres _ _ _), by rw [hvars]; rfl, rfl, ?_, ?_⟩, ?_⟩
    · intro b off hp
      have hp' : MemPlace.cell b off ∈ p := by simpa using hp
      have hblt : b < W.heap.size := hlt (.cell b off) (by simp [hp'])
      rw [hb.frozen (p := ⟨b, off, none⟩) hblt]
      exact hz b off (by simp [hp'])
    · intro ha
      simpa using hnd ha
    · intro x hx _
      simpa using hx
end Go.Ev
namespace Go.Ev
open Go.RowKit (Below)
open Go.ChangeShapes Go.WideShapes Go.ChangeAt Go.RowKit
section
variable {H : Type} (P : Program) (enc : TypeId × Value → H)
def q0z (ts : List TypeId) {τ : Type} (c : τ → List AV) (ok : τ → Prop) : Prop :=
  ∀ (W : World) (args : List Value) (ds : List (DataW H)) (p : List MemPlace), DataW.TrodAll enc P W 0 (fun _ => true) true ts args ds p →
    (∀ (j : Nat) t v, ts[j]? = some t → args[j]? = some v → ∃ base, Value.okWide P W .any base t v) → ∃ x : τ, ok x ∧ VRs Ctx.nil W (c x) args ∧ ds.length = ts.length
variable {P enc}
def q7z : TypeDesc → Bool
  | .struct _ => false
  | .array _ _ => false
  | _ => true
theorem q2w {w : World} {r : Reach} {base : Nat} {t : TypeId} {v : Value} {u : TypeDesc} (hu : P.underlying t = some u) (hp : q7z u = true) (h : Value.okWide P w r base t v) : ∀ cs, v ≠ .agg cs := by
  rintro cs rfl
  unfold Value.okWide at h
  rw [hu] at h
  cases u <;> simp only [q7z, Bool.false_eq_true] at hp <;> simp only [Cell.okWide, Cell.ok, hu] at h
theorem q6e : q0z P enc [] (fun _ : Unit => []) (fun _ => True) := by
  intro W args ds p h _
  obtain ⟨rfl, rfl, rfl⟩ := trodAll_nil h
  exact ⟨(), trivial, by simp [VRs], rfl⟩
theorem q4n {t : TypeId} {ts : List TypeId} {u : TypeDesc} {α β : Type} {a : α → AV} {ok1 : α → Prop} {c2 : β → List AV} {ok2 : β → Prop} (hu : P.underlying t = some u) (hp : q7z u = true)
    (h1 : qj8 P enc t (fun x => [a x]) ok1) (h2 : q0z P enc ts c2 ok2) : q0z P enc (t :: ts) (fun x : α × β => a x.1 :: c2 x.2) (fun x => ok1 x.1 ∧ ok2 x.2) := by
  intro W args ds p h hval
  obtain ⟨v, vs, d, ds', p, q, rfl, rfl, rfl, ht, hr⟩ := trodAll_cons h
  obtain ⟨y, k1, k2, k3⟩ := h2 W vs ds' q hr fun j t v e1 e2 => hval (j + 1) t v (by simpa using e1) (by simpa using e2)
  obtain ⟨fuel, hf⟩ := ht
  obtain ⟨x, m1, m2⟩ := h1 W fuel _ d p hf
  obtain ⟨base, hv⟩ := hval 0 t v rfl rfl
  have hna := q2w hu hp hv
  have hc : v.cells.toList = [v] := by
    cases v with
    | agg cs => exact absurd rfl (hna cs)
    | _ => rfl
  rw [hc] at m2
  simp only [VRs] at m2
  obtain ⟨v', r, e, m3, rfl⟩ := m2
  cases e
  refine ⟨(x, y), ⟨m1, k1⟩, ?_, by simp [k3]⟩
  simp only [VRs]
  exact ⟨v, vs, rfl, m3, k2⟩
theorem q2a {t : TypeId} {ts : List TypeId} {fs : Array Field} {α β : Type} {c1 : α → List AV} {ok1 : α → Prop} {c2 : β → List AV} {ok2 : β → Prop} (hu : P.underlying t = some (.struct fs))
    (h1 : qj8 P enc t c1 ok1) (h2 : q0z P enc ts c2 ok2) : q0z P enc (t :: ts) (fun x : α × β => .agg (c1 x.1) :: c2 x.2) (fun x => ok1 x.1 ∧ ok2 x.2) := by
  intro W args ds p h hval
  obtain ⟨v, vs, d, ds', p, q, rfl, rfl, rfl, ht, hr⟩ := trodAll_cons h
  obtain ⟨y, k1, k2, k3⟩ := h2 W vs ds' q hr fun j t v e1 e2 => hval (j + 1) t v (by simpa using e1) (by simpa using e2)
  obtain ⟨fuel, hf⟩ := ht
  obtain ⟨x, m1, m2⟩ := h1 W fuel _ d p hf
  obtain ⟨base, hv⟩ := hval 0 t v rfl rfl
  obtain ⟨cs, rfl, _⟩ := okWide_struct hu hv
  refine ⟨(x, y), ⟨m1, k1⟩, ?_, by simp [k3]⟩
  simp only [VRs]
  refine ⟨_, vs, rfl, ?_, k2⟩
  simp only [VR]
  exact ⟨cs.toList, by simp, by simpa [Value.cells] using m2⟩
end
theorem q3o {H : Type} {enc : TypeId × Value → H} {P : Program} {T : Tab} (hT : TabOk P T) {f : Nat} {fn : Func} {cf : CFunc} (hc : T.code f = some cf) {s : ChangeSpec} {apart : Bool} {ts : List TypeId} {tb : TypeId} {τ : Type} {c : τ → List AV} {ok : τ → Prop}
    (hpar : fn.params.toList = ts) (hargs : q0z P enc ts c ok) (hlaw : ∀ x, ok x → qbk (evL T) f (c x) = some (.v (.bool true)))
    (hvars : s.vars = []) (hspec : ∀ ds : List (DataW H), ds.length = ts.length → s.fn H ds = { results := [.lit (.bool true)], args := ds })
    (hr : fn.resultTypes = #[tb]) (htb : P.underlying tb = some .bool) (hl : laidOutB P = true) (hts : ∀ t ∈ ts, P.readableRec t = true ∧ t < P.types.size)
    (W : World) (base : Nat) (args : Array Value) (ds gs : List (DataW H)) (before : List MemPlace) (hval : ∀ (j : Nat) t v, fn.params[j]? = some t → args[j]? = some v → Value.okWide P W .any base t v)
    (hW : DataW.Whole enc P fn.params.toList s.vars apart W args.toList ds gs before) : Calls P f args W fun e W' => ∃ v, e = .returned v ∧ s.post enc P fn apart true false false W args v W' := by
  have hW' := hW
  obtain ⟨p, q, hA, hV, rfl, hz, hnd⟩ := hW
  rw [hvars] at hV
  obtain ⟨rfl, rfl⟩ := trodVars_none hV
  obtain ⟨x, h1, h2, h3⟩ := hargs W args.toList ds p (hpar ▸ hA) fun j t v e1 e2 => ⟨base, hval j t v (by rw [← hpar] at e1; simpa using e1) (by simpa using e2)⟩
  refine (q51 hT hc (hlaw x h1) h2).mono fun e W' ⟨he, hb⟩ => ⟨_, he, ?_⟩
  exact q21 hvars (by rw [List.append_nil]; exact hspec ds h3) hr htb hl (by rw [hpar]; exact hts) hW' hb
end Go.Ev
namespace Go.Proofs.Ythkjkdbjgpeigaa.K
open Go.Ev
open Go.ChangeShapes Go.WideShapes Go.ChangeAt Go.RowKit
section
variable {H : Type} {enc : TypeId × Value → H}
theorem wf_u8 {n : Int} (h : (Lit.int .u8 n).wf = true) : 0 ≤ n ∧ n ≤ 255 := by
  simp [Lit.wf] at h
  have h1 : IntKind.u8.min = 0 := rfl
  have h2 : IntKind.u8.max = 255 := rfl
  omega
theorem wf_i64 {n : Int} (h : (Lit.int .i64 n).wf = true) : -9223372036854775808 ≤ n ∧ n ≤ 9223372036854775807 := by
  simp [Lit.wf] at h
  have h1 : IntKind.i64.min = -9223372036854775808 := rfl
  have h2 : IntKind.i64.max = 9223372036854775807 := rfl
  omega
theorem qmn : qj8 Try.prog enc 3 (fun n : Int => [(.v (.int .i64 (n)))]) (fun n => -9223372036854775808 ≤ n ∧ n ≤ 9223372036854775807) := (q0f Try.underlying3).map id (fun _ => rfl) (fun _ h => wf_i64 h)
theorem data_u8 : qj8 Try.prog enc 5 (fun n : Int => [(.v (.int .u8 n))]) (fun n => 0 ≤ n ∧ n ≤ 255) := (q0f Try.underlying5).map id (fun _ => rfl) (fun _ h => wf_u8 h)
theorem data_op : qj8 Try.prog enc 75 OpI.r (fun _ => True) := by
  have h := qon (P := Try.prog) (enc := enc) (t := 75) Try.underlying75 (qe5 (sz := 1) rfl (by kernel_rfl) qmn (qe5 (sz := 1) rfl (by kernel_rfl) qmn (qe5 (sz := 1) rfl (by kernel_rfl) qmn (qe5 (sz := 1) rfl (by kernel_rfl) qmn (qq5 _))))) (by kernel_rfl)
  exact h.map (fun x => (⟨x.1, x.2.1, x.2.2.1, x.2.2.2.1⟩ : OpI)) (fun _ => rfl) (fun _ _ => trivial)
theorem q7d : qj8 Try.prog enc 76 (fun l : List OpI => [(.fsl ((l).map OpI.r) false)]) (fun l => (∀ x ∈ l, True) ∧ l.length ≤ maxLen) := qn8 (sz := 4) Try.underlying76 (by kernel_rfl) (by decide) (fun _ => rfl) data_op
theorem q62 : qj8 Try.prog enc 23 (fun l : List (List OpI) => [(.fsl ((l).map qbu) false)]) (fun l => (∀ x ∈ l, (∀ y ∈ x, True) ∧ x.length ≤ maxLen) ∧ l.length ≤ maxLen) := qn8 (sz := 1) Try.underlying23 (by kernel_rfl) (by decide) (fun _ => rfl) q7d
theorem q6t : qj8 Try.prog enc 67 Start.r (fun _ => True) := by
  have h := qon (P := Try.prog) (enc := enc) (t := 67) Try.underlying67 (qe5 (sz := 1) rfl (by kernel_rfl) qmn (qe5 (sz := 1) rfl (by kernel_rfl) qmn (qq5 _))) (by kernel_rfl)
  exact h.map (fun x => (⟨x.1, x.2.1⟩ : Start)) (fun _ => rfl) (fun _ _ => trivial)
theorem q3v : qj8 Try.prog enc 65 (fun l : List Start => [(.fsl ((l).map Start.r) false)]) (fun l => (∀ x ∈ l, True) ∧ l.length ≤ maxLen) := qn8 (sz := 2) Try.underlying65 (by kernel_rfl) (by decide) (fun _ => rfl) q6t
theorem data_lps : qj8 Try.prog enc 22 (fun l : List (List Start) => [(.fsl ((l).map lpC) false)]) (fun l => (∀ x ∈ l, (∀ y ∈ x, True) ∧ x.length ≤ maxLen) ∧ l.length ≤ maxLen) := qn8 (sz := 1) Try.underlying22 (by kernel_rfl) (by decide) (fun _ => rfl) q3v
theorem data_cfg : qj8 Try.prog enc 25 (fun c : Cfg => [(.fsl ((c.lps).map lpC) false), (.fsl ((c.progs).map qbu) false), (.v (.int .i64 (c.look))), (.v (.int .i64 (c.fin))), (.v (.int .i64 (c.cap)))]) (fun c => -9223372036854775808 ≤ c.look ∧ c.look ≤ 9223372036854775807) := by
  have h := qon (P := Try.prog) (enc := enc) (t := 25) Try.underlying25 (qe5 (sz := 1) rfl (by kernel_rfl) data_lps (qe5 (sz := 1) rfl (by kernel_rfl) q62 (qe5 (sz := 1) rfl (by kernel_rfl) qmn (qe5 (sz := 1) rfl (by kernel_rfl) qmn (qe5 (sz := 1) rfl (by kernel_rfl) qmn (qq5 _)))))) (by kernel_rfl)
  exact h.map (fun x => (⟨x.1, x.2.1, x.2.2.1, x.2.2.2.1, x.2.2.2.2.1⟩ : Cfg)) (fun _ => rfl) (fun _ h => h.2.2.1)
end
theorem own : ownKnob Try.prog.godebug = none := by kernel_rfl
theorem laid : laidOutB Try.prog = true := by kernel_rfl
end Go.Proofs.Ythkjkdbjgpeigaa.K
