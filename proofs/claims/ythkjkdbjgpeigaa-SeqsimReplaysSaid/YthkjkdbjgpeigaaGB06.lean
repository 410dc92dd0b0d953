/- For every input the statement of this claim returns true: texts of its proof, joined (part 7). -/
import Derived.Test.YthkjkdbjgpeigaaGB05
set_option linter.unusedSectionVars false
set_option linter.unusedSimpArgs false
set_option linter.unusedVariables false
namespace Go.Proofs.Ythkjkdbjgpeigaa.K
open Go.Ev
set_option maxRecDepth 10000
theorem qzm (l : List Pr) (c : Bool) (h : l.length ≤ 1000) : (evL T).call qc2 [(.fsl ((l).map Pr.r) c)] [] = some (.sl 0 0 0 l.length false, [.row 4 (l.map Pr.r) 0]) := by
  have h' : l.length * 48 ≤ 140737488355328 := by omega
  rw [q38 qj5]
  simp only [qtu, qar, q1e, h', Ev.qy, Ev.qj, Ev.qk, List.length_map, ↓reduceIte, Nat.reduceLT, Nat.reducePow, Bool.and_self, and_self, eq_self]
theorem q5l (a0 a1 a2 : Int) (am : Nat) (x : Ex) (gp gc gg : Nat) (i : Nat) (hi : x.ev.proc = i) (hp : i < x.procs.length) :
    (evL T).call qa0 [.ptr 5 0 0 0] [.row 4 [[(.v (.int .i64 (a0))), (.v (.int .i64 (a1))), .sl 2 0 0 am false, (.v (.int .i64 (a2)))]] 0, .row 4 [[(.v (.int .i64 (0))), (.v (.int .i64 (0))), .fsl [] false, (.v (.int .i64 (0)))]] 0, .row 4 ((x.procs).map Pr.r) gp, .row 6 ((x.out).map Evt.r) gc, .row 1 ((x.gone).map qfe) gg, .row 14 [[(.v (.int .i64 (x.r0))), (.v (.int .i64 (x.r1))), .sl 2 gp 0 x.procs.length false, (.v (.int .i64 (x.sum))), (.v (.int .i64 (x.ev.time))), (.fsl ((x.ev.key).map qcp) false), (.v (.int .i64 (x.ev.lp))), (.v (.int .i64 (x.ev.kind))), (.v (.int .i64 (x.ev.proc))), (.v (.int .i64 (x.ev.arg))), .sl 3 gc 0 x.out.length false, (.v (.int .i64 (x.n))), .sl 4 gg 0 x.gone.length false, (.v (.bool (x.over)))]] 0] = some (.ptr 2 gp i 0, [.row 4 [[(.v (.int .i64 (a0))), (.v (.int .i64 (a1))), .sl 2 0 0 am false, (.v (.int .i64 (a2)))]] 0, .row 4 [[(.v (.int .i64 (0))), (.v (.int .i64 (0))), .fsl [] false, (.v (.int .i64 (0)))]] 0, .row 4 ((x.procs).map Pr.r) gp, .row 6 ((x.out).map Evt.r) gc, .row 1 ((x.gone).map qfe) gg, .row 14 [[(.v (.int .i64 (x.r0))), (.v (.int .i64 (x.r1))), .sl 2 gp 0 x.procs.length false, (.v (.int .i64 (x.sum))), (.v (.int .i64 (x.ev.time))), (.fsl ((x.ev.key).map qcp) false), (.v (.int .i64 (x.ev.lp))), (.v (.int .i64 (x.ev.kind))), (.v (.int .i64 (x.ev.proc))), (.v (.int .i64 (x.ev.arg))), .sl 3 gc 0 x.out.length false, (.v (.int .i64 (x.n))), .sl 4 gg 0 x.gone.length false, (.v (.bool (x.over)))]] 0]) := by
  rw [qu qjk qix]
  simp only [qez, hi, hp, Int.natCast_nonneg, Int.toNat_natCast, qax, qar, qah, qb0, Nat.reduceLT, Ev.qm, Ev.exec, Ev.qb, Ev.qe, Ev.qc, Ev.qaf, Ev.Opnd.ev, Ev.Env.get, Ev.Env.set, Ev.look, Ev.qn, Ev.qi, Ev.qab, Ev.ql, Ev.qw, Ev.qae, Ev.kill, Ev.qad, Ev.qd, Ev.SObj.lo, Ev.qa4, Ev.qy, Ev.qb8, Ev.qjv, Ev.qj, Ev.qk, Ev.qac, Ev.qaq, ↓Ev.qq, ↓reduceIte, List.length_cons, List.length_nil, List.getElem?_cons_zero, List.getElem?_cons_succ, List.take_succ_cons, List.take_nil, List.drop_succ_cons, List.drop_zero, List.head?_cons, Nat.reduceAdd, Nat.reduceEqDiff, Nat.reduceLT, reduceCtorEq, decide_true, Bool.and_self, Bool.false_eq_true, and_self, Nat.zero_add, Nat.add_zero, eq_self]
def qcx (x : Lp) (e : Evt) : Ex := ⟨x.r0, x.r1, x.procs, x.sum, e, [], 0, [], false⟩
def qic (e : Evt) (q : Pr) : Pr := if e.kind = 2 then { q with pc := e.arg, timer := if q.timer = e.key then [] else q.timer } else q
def q2b (x : Ex) : Lp := ⟨x.r0, x.r1, x.procs, x.sum⟩
def qlw (x : Lp) (e : Evt) : Option Pr := if (e.kind = 1 ∨ e.kind = 2) ∧ 0 ≤ e.proc then (x.procs[e.proc.toNat]?).bind fun q => if q.alive = true then some q else none else none
def qql (c : Cfg) (x : Lp) (e : Evt) (q : Pr) : Ex := qki ((c.progs[q.prog.toNat]?).getD []) e.proc.toNat 16 ((qcx x e).setP e.proc.toNat (qic e q))
structure qvk (c : Cfg) (x : Lp) (e : Evt) : Prop where
  procs : x.procs.length ≤ 20
  key : e.key.length ≤ 1000
  proc : ∀ q ∈ x.procs, 0 ≤ q.prog ∧ q.prog < c.progs.length ∧ 0 ≤ q.pc ∧ q.pc ≤ 1000000 ∧ q.timer.length ≤ 1000
  prog : ∀ p ∈ c.progs, p.length ≤ 1000 ∧ ∀ op ∈ p, OpOk' op
  arg : e.kind = 2 → 0 ≤ e.arg ∧ e.arg ≤ 1000000
section
variable (c : Cfg) (x : Lp) (e : Evt)
theorem Exec_msg (hk : e.kind = 3) : qbk (evL T) qep [(.agg [(.fsl ((c.lps).map lpC) false), (.fsl ((c.progs).map qbu) false), (.v (.int .i64 (c.look))), (.v (.int .i64 (c.fin))), (.v (.int .i64 (c.cap)))]), (.agg [(.v (.int .i64 (x.r0))), (.v (.int .i64 (x.r1))), (.fsl ((x.procs).map Pr.r) false), (.v (.int .i64 (x.sum)))]), (.agg [(.v (.int .i64 (e.time))), (.fsl ((e.key).map qcp) false), (.v (.int .i64 (e.lp))), (.v (.int .i64 (e.kind))), (.v (.int .i64 (e.proc))), (.v (.int .i64 (e.arg)))])] = some (.tup [(.agg [(.v (.int .i64 ((⟨x.r0, x.r1, x.procs, w64 (x.sum + e.arg)⟩ : Lp).r0))), (.v (.int .i64 ((⟨x.r0, x.r1, x.procs, w64 (x.sum + e.arg)⟩ : Lp).r1))), (.fsl (((⟨x.r0, x.r1, x.procs, w64 (x.sum + e.arg)⟩ : Lp).procs).map Pr.r) false), (.v (.int .i64 ((⟨x.r0, x.r1, x.procs, w64 (x.sum + e.arg)⟩ : Lp).sum)))]), .fsl [] true, .fsl [] true, (.v (.bool (false)))]) := by
  rw [qbk, qu qjw qjh]
  simp only [qby, hk, qar, Ev.qm, Ev.exec, Ev.qb, Ev.qe, Ev.qc, Ev.qaf, Ev.Opnd.ev, Ev.Env.get, Ev.Env.set, Ev.look, Ev.qn, Ev.qi, Ev.qab, Ev.AV.cells, Ev.AV.uc, Ev.qv, Ev.AV.plain, Ev.qaj, Ev.qak, Ev.ql, Ev.qw, Ev.qae, Ev.kill, Ev.qad, Ev.qd, Ev.qa4, Ev.qbn, Ev.qbc, Ev.qy, Ev.qj, Ev.qk, Ev.qac, Ev.qal, ↓Ev.qq, ↓reduceIte, List.length_cons, List.length_nil, List.getElem?_cons_zero, List.getElem?_cons_succ, List.take_succ_cons, List.take_zero, List.take_nil, List.drop_succ_cons, List.drop_zero, List.drop_nil, List.cons_append, List.nil_append, List.append_nil, List.set_cons_zero, List.set_cons_succ, List.head?_cons, Nat.reduceAdd, Nat.reduceEqDiff, reduceCtorEq, decide_true, Bool.and_self, Bool.false_eq_true, and_self, ne_eq, not_false_eq_true, List.cons_ne_nil, Nat.zero_add, Nat.le_refl, eq_self]
theorem q7n (hk : ¬ e.kind = 3) (ha : qlw x e = none) : qbk (evL T) qep [(.agg [(.fsl ((c.lps).map lpC) false), (.fsl ((c.progs).map qbu) false), (.v (.int .i64 (c.look))), (.v (.int .i64 (c.fin))), (.v (.int .i64 (c.cap)))]), (.agg [(.v (.int .i64 (x.r0))), (.v (.int .i64 (x.r1))), (.fsl ((x.procs).map Pr.r) false), (.v (.int .i64 (x.sum)))]), (.agg [(.v (.int .i64 (e.time))), (.fsl ((e.key).map qcp) false), (.v (.int .i64 (e.lp))), (.v (.int .i64 (e.kind))), (.v (.int .i64 (e.proc))), (.v (.int .i64 (e.arg)))])] = some (.tup [(.agg [(.v (.int .i64 (x.r0))), (.v (.int .i64 (x.r1))), (.fsl ((x.procs).map Pr.r) false), (.v (.int .i64 (x.sum)))]), .fsl [] true, .fsl [] true, (.v (.bool (false)))]) := by
  rw [qbk, qu qjw qjh]
  by_cases k1 : e.kind = 1
  case neg =>
    by_cases k2 : e.kind = 2
    case neg => simp only [qby, hk, k1, k2, qar, Ev.qm, Ev.exec, Ev.qb, Ev.qe, Ev.qc, Ev.qaf, Ev.Opnd.ev, Ev.Env.get, Ev.Env.set, Ev.look, Ev.qn, Ev.qi, Ev.qab, Ev.AV.cells, Ev.qv, Ev.AV.plain, Ev.qak, Ev.qbd, Ev.ql, Ev.qw, Ev.qae, Ev.kill, Ev.qad, Ev.qd, Ev.qa4, Ev.qbn, Ev.qbc, Ev.qy, Ev.qj, Ev.qk, Ev.qac, Ev.qal, ↓Ev.qq, ↓reduceIte, List.length_cons, List.length_nil, List.getElem?_cons_zero, List.getElem?_cons_succ, List.take_succ_cons, List.take_zero, List.take_nil, List.drop_succ_cons, List.drop_zero, List.drop_nil, List.cons_append, List.nil_append, List.append_nil, List.set_cons_zero, List.set_cons_succ, List.head?_cons, Nat.reduceAdd, Nat.reduceEqDiff, reduceCtorEq, decide_true, decide_false, Bool.and_self, Bool.false_eq_true, and_self, ne_eq, not_false_eq_true, List.cons_ne_nil, Nat.zero_add, Nat.le_refl, eq_self]
    by_cases h1 : e.proc < 0
    · simp only [qby, k2, h1, qar, Ev.qm, Ev.exec, Ev.qb, Ev.qe, Ev.qc, Ev.qaf, Ev.Opnd.ev, Ev.Env.get, Ev.Env.set, Ev.look, Ev.qn, Ev.qi, Ev.qab, Ev.AV.cells, Ev.qv, Ev.AV.plain, Ev.qak, Ev.qbd, Ev.qo, Ev.ql, Ev.qw, Ev.qae, Ev.kill, Ev.qad, Ev.qd, Ev.qa4, Ev.qbn, Ev.qbc, Ev.qy, Ev.qj, Ev.qk, Ev.qac, Ev.qal, ↓Ev.qq, ↓reduceIte, List.length_cons, List.length_nil, List.getElem?_cons_zero, List.getElem?_cons_succ, List.take_succ_cons, List.take_zero, List.take_nil, List.drop_succ_cons, List.drop_zero, List.drop_nil, List.cons_append, List.nil_append, List.append_nil, List.set_cons_zero, List.set_cons_succ, List.head?_cons, Nat.reduceAdd, Nat.reduceEqDiff, Int.reduceEq, reduceCtorEq, decide_true, decide_false, Bool.and_self, Bool.false_eq_true, and_self, ne_eq, not_false_eq_true, not_true_eq_false, List.cons_ne_nil, Nat.zero_add, Nat.le_refl, eq_self]
    by_cases h2 : e.proc ≥ (x.procs.length : Int)
    · simp only [qby, k2, h1, h2, qar, Ev.qm, Ev.exec, Ev.qb, Ev.qe, Ev.qc, Ev.qaf, Ev.Opnd.ev, Ev.Env.get, Ev.Env.set, Ev.look, Ev.qn, Ev.qi, Ev.qab, Ev.AV.cells, Ev.qv, Ev.AV.plain, Ev.qak, Ev.qbd, Ev.qo, Ev.qbz, Ev.ql, Ev.qw, Ev.qae, Ev.kill, Ev.qad, Ev.qd, Ev.qa4, Ev.qbn, Ev.qbc, Ev.qy, Ev.qj, Ev.qk, Ev.qac, Ev.qal, List.length_map, ↓Ev.qq, ↓reduceIte, List.length_cons, List.length_nil, List.getElem?_cons_zero, List.getElem?_cons_succ, List.take_succ_cons, List.take_zero, List.take_nil, List.drop_succ_cons, List.drop_zero, List.drop_nil, List.cons_append, List.nil_append, List.append_nil, List.set_cons_zero, List.set_cons_succ, List.head?_cons, Nat.reduceAdd, Nat.reduceEqDiff, Int.reduceEq, reduceCtorEq, decide_true, decide_false, Bool.and_self, Bool.false_eq_true, and_self, ne_eq, not_false_eq_true, not_true_eq_false, List.cons_ne_nil, Nat.zero_add, Nat.le_refl, eq_self]
    obtain ⟨q, hq⟩ : ∃ q, x.procs[e.proc.toNat]? = some q := ⟨_, List.getElem?_eq_getElem (by omega)⟩
    have h0 : 0 ≤ e.proc := by omega
    have hal : q.alive = false := by
      unfold qlw at ha
      rw [if_pos ⟨.inr k2, h0⟩, hq] at ha
      cases h : q.alive with
      | false => rfl
      | true => simp [h] at ha
    simp only [qby, k2, h0, h1, h2, hq, hal, List.getElem?_map, Option.map_some, Pr.r, qar, Ev.qm, Ev.exec, Ev.qb, Ev.qe, Ev.qc, Ev.qaf, Ev.Opnd.ev, Ev.Env.get, Ev.Env.set, Ev.look, Ev.qn, Ev.qi, Ev.qab, Ev.AV.cells, Ev.qv, Ev.AV.plain, Ev.qak, Ev.qbd, Ev.qo, Ev.qbz, Ev.ql, Ev.qw, Ev.qae, Ev.kill, Ev.qad, Ev.qd, Ev.qa4, Ev.qbn, Ev.qbc, Ev.qy, Ev.qj, Ev.qk, Ev.qac, Ev.qal, List.length_map, ↓Ev.qq, ↓reduceIte, List.length_cons, List.length_nil, List.getElem?_cons_zero, List.getElem?_cons_succ, List.take_succ_cons, List.take_zero, List.take_nil, List.drop_succ_cons, List.drop_zero, List.drop_nil, List.cons_append, List.nil_append, List.append_nil, List.set_cons_zero, List.set_cons_succ, List.head?_cons, Nat.reduceAdd, Nat.reduceEqDiff, Int.reduceEq, reduceCtorEq, decide_true, decide_false, Bool.and_self, Bool.not_false, Bool.false_eq_true, and_self, ne_eq, not_false_eq_true, not_true_eq_false, List.cons_ne_nil, Nat.zero_add, Nat.le_refl, eq_self]
  by_cases h1 : e.proc < 0
  · simp only [qby, k1, h1, qar, Ev.qm, Ev.exec, Ev.qb, Ev.qe, Ev.qc, Ev.qaf, Ev.Opnd.ev, Ev.Env.get, Ev.Env.set, Ev.Env.unset, Ev.look, Ev.qn, Ev.qi, Ev.qab, Ev.AV.cells, Ev.qv, Ev.AV.plain, Ev.qak, Ev.qbd, Ev.qo, Ev.ql, Ev.qw, Ev.qae, Ev.kill, Ev.qad, Ev.qd, Ev.qa4, Ev.qbn, Ev.qbc, Ev.qy, Ev.qj, Ev.qk, Ev.qac, Ev.qal, ↓Ev.qq, ↓reduceIte, List.length_cons, List.length_nil, List.getElem?_cons_zero, List.getElem?_cons_succ, List.take_succ_cons, List.take_zero, List.take_nil, List.drop_succ_cons, List.drop_zero, List.drop_nil, List.cons_append, List.nil_append, List.append_nil, List.set_cons_zero, List.set_cons_succ, List.head?_cons, Nat.reduceAdd, Nat.reduceEqDiff, Int.reduceEq, reduceCtorEq, decide_true, decide_false, Bool.and_self, Bool.false_eq_true, and_self, ne_eq, not_false_eq_true, not_true_eq_false, List.cons_ne_nil, Nat.zero_add, Nat.le_refl, eq_self]
  by_cases h2 : e.proc ≥ (x.procs.length : Int)
  · simp only [qby, k1, h1, h2, qar, Ev.qm, Ev.exec, Ev.qb, Ev.qe, Ev.qc, Ev.qaf, Ev.Opnd.ev, Ev.Env.get, Ev.Env.set, Ev.Env.unset, Ev.look, Ev.qn, Ev.qi, Ev.qab, Ev.AV.cells, Ev.qv, Ev.AV.plain, Ev.qak, Ev.qbd, Ev.qo, Ev.qbz, Ev.ql, Ev.qw, Ev.qae, Ev.kill, Ev.qad, Ev.qd, Ev.qa4, Ev.qbn, Ev.qbc, Ev.qy, Ev.qj, Ev.qk, Ev.qac, Ev.qal, List.length_map, ↓Ev.qq, ↓reduceIte, List.length_cons, List.length_nil, List.getElem?_cons_zero, List.getElem?_cons_succ, List.take_succ_cons, List.take_zero, List.take_nil, List.drop_succ_cons, List.drop_zero, List.drop_nil, List.cons_append, List.nil_append, List.append_nil, List.set_cons_zero, List.set_cons_succ, List.head?_cons, Nat.reduceAdd, Nat.reduceEqDiff, Int.reduceEq, reduceCtorEq, decide_true, decide_false, Bool.and_self, Bool.false_eq_true, and_self, ne_eq, not_false_eq_true, not_true_eq_false, List.cons_ne_nil, Nat.zero_add, Nat.le_refl, eq_self]
  obtain ⟨q, hq⟩ : ∃ q, x.procs[e.proc.toNat]? = some q := ⟨_, List.getElem?_eq_getElem (by omega)⟩
  have h0 : 0 ≤ e.proc := by omega
  have hal : q.alive = false := by
    unfold qlw at ha
    rw [if_pos ⟨.inl k1, h0⟩, hq] at ha
    cases h : q.alive with
    | false => rfl
    | true => simp [h] at ha
  simp only [qby, k1, h0, h1, h2, hq, hal, List.getElem?_map, Option.map_some, Pr.r, qar, Ev.qm, Ev.exec, Ev.qb, Ev.qe, Ev.qc, Ev.qaf, Ev.Opnd.ev, Ev.Env.get, Ev.Env.set, Ev.Env.unset, Ev.look, Ev.qn, Ev.qi, Ev.qab, Ev.AV.cells, Ev.qv, Ev.AV.plain, Ev.qak, Ev.qbd, Ev.qo, Ev.qbz, Ev.ql, Ev.qw, Ev.qae, Ev.kill, Ev.qad, Ev.qd, Ev.qa4, Ev.qbn, Ev.qbc, Ev.qy, Ev.qj, Ev.qk, Ev.qac, Ev.qal, List.length_map, ↓Ev.qq, ↓reduceIte, List.length_cons, List.length_nil, List.getElem?_cons_zero, List.getElem?_cons_succ, List.take_succ_cons, List.take_zero, List.take_nil, List.drop_succ_cons, List.drop_zero, List.drop_nil, List.cons_append, List.nil_append, List.append_nil, List.set_cons_zero, List.set_cons_succ, List.head?_cons, Nat.reduceAdd, Nat.reduceEqDiff, Int.reduceEq, reduceCtorEq, decide_false, Bool.and_self, Bool.not_false, Bool.false_eq_true, and_self, ne_eq, not_false_eq_true, not_true_eq_false, List.cons_ne_nil, Nat.zero_add, Nat.le_refl, eq_self]
end
set_option maxRecDepth 10000
section
variable (c : Cfg) (x : Lp) (e : Evt)
theorem qyv (h : qvk c x e) {i : Nat} {q : Pr} (hi : e.proc = i) (hq : x.procs[i]? = some q) : ActInv e i 0 ((qcx x e).setP i (qic e q)) := by
  have hlt := (List.getElem?_eq_some_iff.1 hq).1
  obtain ⟨p1, p2, p3, p4, p5⟩ := h.proc q (List.mem_of_getElem? hq)
  refine ⟨rfl, ⟨qic e q, by simp only [Ex.setP, qcx]; rw [List.getElem?_set_self hlt], ?_⟩, by simp only [Ex.setP, qcx, List.length_set]; exact h.procs, Nat.le_refl _, Nat.le_refl _⟩
  unfold qic
  by_cases k : e.kind = 2
  · rw [if_pos k]; exact h.arg k
  · rw [if_neg k]; exact ⟨p3, p4⟩
theorem qxm (q : Pr) : (qic e q).prog = q.prog := by unfold qic; split <;> rfl
theorem Exec_run (h : qvk c x e) {q : Pr} (ha : qlw x e = some q) :
    qbk (evL T) qep [(.agg [(.fsl ((c.lps).map lpC) false), (.fsl ((c.progs).map qbu) false), (.v (.int .i64 (c.look))), (.v (.int .i64 (c.fin))), (.v (.int .i64 (c.cap)))]), (.agg [(.v (.int .i64 (x.r0))), (.v (.int .i64 (x.r1))), (.fsl ((x.procs).map Pr.r) false), (.v (.int .i64 (x.sum)))]), (.agg [(.v (.int .i64 (e.time))), (.fsl ((e.key).map qcp) false), (.v (.int .i64 (e.lp))), (.v (.int .i64 (e.kind))), (.v (.int .i64 (e.proc))), (.v (.int .i64 (e.arg)))])] = some (.tup [(.agg [(.v (.int .i64 ((q2b (qql c x e q)).r0))), (.v (.int .i64 ((q2b (qql c x e q)).r1))), (.fsl (((q2b (qql c x e q)).procs).map Pr.r) false), (.v (.int .i64 ((q2b (qql c x e q)).sum)))]), (.fsl (((qql c x e q).out).map Evt.r) false), (.fsl (((qql c x e q).gone).map qfe) false), (.v (.bool ((qql c x e q).over)))]) := by
  unfold qlw at ha
  split at ha
  case isFalse => cases ha
  rename_i hc
  obtain ⟨hkind, h0⟩ := hc
  obtain ⟨i, hi⟩ : ∃ i : Nat, e.proc = i := ⟨_, (Int.toNat_of_nonneg h0).symm⟩
  have hin : e.proc.toNat = i := by omega
  rw [hin, Option.bind_eq_some_iff] at ha
  obtain ⟨q', hq, ha⟩ := ha
  split at ha
  case isFalse => cases ha
  rename_i hal
  cases ha
  have hlt := (List.getElem?_eq_some_iff.1 hq).1
  obtain ⟨p1, p2, p3, p4, p5⟩ := h.proc q (List.mem_of_getElem? hq)
  obtain ⟨p, hp⟩ : ∃ p, c.progs[q.prog.toNat]? = some p := ⟨_, List.getElem?_eq_getElem (by omega)⟩
  obtain ⟨pl, pok⟩ := h.prog p (List.mem_of_getElem? hp)
  have hinv := qyv c x e h hi hq
  obtain ⟨gp, gc, gg, hact, hend⟩ := q4f x.r0 x.r1 x.sum x.procs.length e i p false h.key hi pl pok ((qcx x e).setP i (qic e q)) 0 0 0 hinv
  have hrun : qql c x e q = qki p i 16 ((qcx x e).setP i (qic e q)) := by unfold qql; rw [hin, hp]; rfl
  rw [hrun]
  generalize qki p i 16 ((qcx x e).setP i (qic e q)) = F at hact hend
  have hcl := qzm x.procs false (by have := h.procs; omega)
  have h1 : ¬ e.proc < 0 := by omega
  have h2 : ¬ e.proc ≥ (x.procs.length : Int) := by omega
  have h9 : ((i : Int)).toNat = i := Int.toNat_natCast i
  have h3 : ¬ e.kind = 3 := by omega
  have s0 := q5l x.r0 x.r1 x.sum x.procs.length (qcx x e) 0 0 0 i hi hlt
  have hset : (x.procs.map Pr.r).set i [(.v (.int .i64 ((qic e q).prog))), (.v (.int .i64 ((qic e q).pc))), (.v (.bool ((qic e q).alive))), (.fsl (((qic e q).timer).map qcp) false)] = (x.procs.set i (qic e q)).map Pr.r := by rw [List.map_set]; rfl
  have hl : (x.procs.set i (qic e q)).length = x.procs.length := by simp
  have hq2 : (x.procs.set i (qic e q))[i]? = some (qic e q) := by rw [List.getElem?_set_self hlt]
  have s1 := q5l x.r0 x.r1 x.sum x.procs.length ((qcx x e).setP i (qic e q)) 0 0 0 i hi (by simp only [Ex.setP, qcx, List.length_set]; exact hlt)
  rw [hi] at h0 h1 h2
  simp only [qcx, List.map_nil, List.length_nil, hi] at s0
  simp only [qcx, Ex.setP, List.map_nil, List.length_nil, hl, hi] at s1 hact
  have ft : ∀ {τ : Type} (l : List τ) (f : τ → List AV), List.take l.length (l.map f) = l.map f := fun l f => List.take_of_length_le (by simp)
  have hpr := qxm e q
  rw [qbk, qu qjw qjh]
  rcases hkind with k1 | k2
  · have hwk : qic e q = q := by unfold qic; rw [if_neg (by omega)]
    have hss : x.procs.set i q = x.procs := by
      obtain ⟨hlt', hge⟩ := List.getElem?_eq_some_iff.1 hq
      rw [← hge, List.set_getElem_self]
    rw [hwk, hss] at hact
    have k2 : ¬ e.kind = 2 := by omega
    have k3 : ¬ (1 : Int) = 3 := by decide
    have k4 : ¬ (1 : Int) = 2 := by decide
    simp only [k1] at s0 hact ⊢
    simp only [qby, k3, k4, h0, h1, h2, hi, hq, hal, hcl, s0, p1, hp, hact, ft, q2b, Int.toNat_natCast, List.getElem?_map, Option.map_some, Pr.r, qbu, qar, qah, qb0, Nat.reduceLT, Nat.reduceLeDiff, Ev.qm, Ev.exec, Ev.qb, Ev.qe, Ev.qc, Ev.qqm, Ev.qd0, Ev.q07, Ev.AV.shift, Ev.qaf, Ev.q5q, Ev.evs, Ev.Opnd.ev, Ev.Env.get, Ev.Env.set, Ev.Env.unset, Ev.look, Ev.qn, Ev.qi, Ev.qab, Ev.qff, Ev.AV.cells, Ev.AV.uc, Ev.qv, Ev.AV.plain, Ev.qak, Ev.qbd, Ev.qo, Ev.qbz, Ev.ql, Ev.qw, Ev.qae, Ev.kill, Ev.qad, Ev.qd, Ev.qa4, Ev.qbn, Ev.qbc, Ev.qy, Ev.qb8, Ev.qm0, Ev.AV.obj?, Ev.qj, Ev.qk, Ev.qal, Ev.q4q, Ev.qui, Ev.qk1, Ev.qiq, Ev.qhn, Ev.qfi, Ev.qhs, List.length_map, ↓Ev.qq, ↓reduceIte, List.length_cons, List.length_nil, List.getElem?_cons_zero, List.getElem?_cons_succ, List.take_succ_cons, List.take_zero, List.take_nil, List.drop_succ_cons, List.drop_zero, List.drop_nil, List.cons_append, List.nil_append, List.append_nil, List.set_cons_zero, List.set_cons_succ, List.head?_cons, Nat.reduceAdd, Nat.reduceEqDiff, Nat.reduceBEq, Nat.reduceLT, Nat.reduceLeDiff, reduceCtorEq, decide_false, Bool.and_self, Bool.and_true, Bool.not_true, Bool.not_false, Bool.false_eq_true, and_self, and_true, ne_eq, not_false_eq_true, not_true_eq_false, List.cons_ne_nil, Nat.zero_add, Nat.add_zero, Nat.lt_add_one, Nat.le_refl, eq_self, Bool.and_false]
    done
  · have k1 : ¬ (2 : Int) = 1 := by decide
    have k3 : ¬ (2 : Int) = 3 := by decide
    have hkl := h.key
    have hwk : qic e q = { q with pc := e.arg, timer := if q.timer = e.key then [] else q.timer } := by unfold qic; rw [if_pos k2]
    obtain ⟨qp, qpc, qa, qt⟩ := q
    dsimp only at *
    subst hal
    have heq := qq8 qt e.key false false (by omega) (by omega)
    have hset1 : (x.procs.map Pr.r).set i [(.v (.int .i64 (qp))), (.v (.int .i64 (e.arg))), (.v (.bool (true))), (.fsl ((qt).map qcp) false)] = (x.procs.set i ⟨qp, e.arg, true, qt⟩).map Pr.r := by rw [List.map_set]; rfl
    have hg1 : (x.procs.set i ⟨qp, e.arg, true, qt⟩)[i]? = some ⟨qp, e.arg, true, qt⟩ := by rw [List.getElem?_set_self hlt]
    have hset2 : ((x.procs.set i ⟨qp, e.arg, true, qt⟩).map Pr.r).set i [(.v (.int .i64 (qp))), (.v (.int .i64 (e.arg))), (.v (.bool (true))), .fsl [] false] = (x.procs.set i ⟨qp, e.arg, true, []⟩).map Pr.r := by
      have : x.procs.set i ⟨qp, e.arg, true, []⟩ = (x.procs.set i ⟨qp, e.arg, true, qt⟩).set i ⟨qp, e.arg, true, []⟩ := by rw [List.set_set]
      rw [this, List.map_set (l := x.procs.set i ⟨qp, e.arg, true, qt⟩)]; rfl
    have hl1 : (x.procs.set i ⟨qp, e.arg, true, qt⟩).length = x.procs.length := by simp
    rw [hwk] at s1 hact hq2
    simp only [k2] at s0 s1 hact ⊢
    by_cases ht : qt = e.key
    · simp only [ht, if_true] at s1 hact hq2
      simp only [ht, decide_true] at heq
      simp only [ht] at hset1 hset2 hg1
      simp only [qby, k1, k3, h0, h1, h2, hi, hq, hcl, s0, s1, p1, hp, hact, ft, heq, hset1, hset2, hg1, hq2, ht, q2b, Int.toNat_natCast, List.getElem?_map, Option.map_some, Pr.r, qbu, qax, qar, qah, qb0, Nat.reduceLT, Nat.reduceLeDiff, Ev.qm, Ev.exec, Ev.qb, Ev.qe, Ev.qc, Ev.qa9, Ev.qqm, Ev.qd0, Ev.q07, Ev.AV.shift, Ev.qaf, Ev.q5q, Ev.evs, Ev.Opnd.ev, Ev.Env.get, Ev.Env.set, Ev.look, Ev.qn, Ev.qi, Ev.qab, Ev.qff, Ev.AV.cells, Ev.AV.uc, Ev.qv, Ev.AV.plain, Ev.qak, Ev.qbd, Ev.qo, Ev.qbz, Ev.ql, Ev.qw, Ev.qae, Ev.kill, Ev.qad, Ev.qd, Ev.qa4, Ev.qbn, Ev.qbc, Ev.qy, Ev.qb8, Ev.qm0, Ev.AV.obj?, Ev.qj, Ev.qk, Ev.qal, Ev.q4q, Ev.qui, Ev.qk1, Ev.qiq, Ev.qhn, Ev.qfi, Ev.qhs, List.length_map, ↓Ev.qq, ↓reduceIte, List.length_cons, List.length_nil, List.getElem?_cons_zero, List.getElem?_cons_succ, List.take_succ_cons, List.take_zero, List.take_nil, List.drop_succ_cons, List.drop_zero, List.drop_nil, List.cons_append, List.nil_append, List.append_nil, List.set_cons_zero, List.set_cons_succ, List.head?_cons, Nat.reduceAdd, Nat.reduceEqDiff, Nat.reduceBEq, Nat.reduceLT, Nat.reduceLeDiff, reduceCtorEq, decide_true, decide_false, Bool.and_self, Bool.and_true, Bool.not_true, Bool.not_false, Bool.false_eq_true, and_self, and_true, ne_eq, not_false_eq_true, not_true_eq_false, List.cons_ne_nil, Nat.zero_add, Nat.add_zero, Nat.lt_add_one, Nat.le_refl, eq_self, Bool.and_false]
      done
    · simp only [ht, if_false] at s1 hact hq2
      simp only [ht, decide_false] at heq
      simp only [qby, k1, k3, h0, h1, h2, hi, hq, hcl, s0, s1, p1, hp, hact, ft, heq, hset1, hg1, q2b, Int.toNat_natCast, List.getElem?_map, Option.map_some, Pr.r, qbu, qax, qar, qah, qb0, Nat.reduceLT, Nat.reduceLeDiff, Ev.qm, Ev.exec, Ev.qb, Ev.qe, Ev.qc, Ev.qa9, Ev.qqm, Ev.qd0, Ev.q07, Ev.AV.shift, Ev.qaf, Ev.q5q, Ev.evs, Ev.Opnd.ev, Ev.Env.get, Ev.Env.set, Ev.look, Ev.qn, Ev.qi, Ev.qab, Ev.qff, Ev.AV.cells, Ev.AV.uc, Ev.qv, Ev.AV.plain, Ev.qak, Ev.qbd, Ev.qo, Ev.qbz, Ev.ql, Ev.qw, Ev.qae, Ev.kill, Ev.qad, Ev.qd, Ev.qa4, Ev.qbn, Ev.qbc, Ev.qy, Ev.qb8, Ev.qm0, Ev.AV.obj?, Ev.qj, Ev.qk, Ev.qal, Ev.q4q, Ev.qui, Ev.qk1, Ev.qiq, Ev.qhn, Ev.qfi, Ev.qhs, List.length_map, ↓Ev.qq, ↓reduceIte, List.length_cons, List.length_nil, List.getElem?_cons_zero, List.getElem?_cons_succ, List.take_succ_cons, List.take_zero, List.take_nil, List.drop_succ_cons, List.drop_zero, List.drop_nil, List.cons_append, List.nil_append, List.append_nil, List.set_cons_zero, List.set_cons_succ, List.head?_cons, Nat.reduceAdd, Nat.reduceEqDiff, Nat.reduceBEq, Nat.reduceLT, Nat.reduceLeDiff, reduceCtorEq, decide_true, decide_false, Bool.and_self, Bool.and_true, Bool.not_true, Bool.not_false, Bool.false_eq_true, and_self, and_true, ne_eq, not_false_eq_true, not_true_eq_false, List.cons_ne_nil, Nat.zero_add, Nat.add_zero, Nat.lt_add_one, Nat.le_refl, eq_self, Bool.and_false]
      done
end
set_option maxRecDepth 10000
def qqv (a b : Int) : Int := if a < b then -1 else if a > b then 1 else 0
theorem qqr (a b : Int) : qbk (evL T) qgo [(.v (.int .i64 (a))), (.v (.int .i64 (b)))] = some (.v (.int .i64 (qqv a b))) := by
  rw [qbk, qu qu2 qt2]
  by_cases h1 : a < b
  · simp only [qht, qqv, h1, Ev.qm, Ev.exec, Ev.qb, Ev.qe, Ev.qc, Ev.qaf, Ev.Opnd.ev, Ev.Env.get, Ev.Env.set, Ev.look, Ev.qn, Ev.qo, Ev.ql, Ev.qw, Ev.qae, Ev.kill, Ev.qad, Ev.qd, Ev.qa4, Ev.qal, ↓Ev.qq, ↓reduceIte, List.length_cons, List.length_nil, List.take_nil, Nat.reduceAdd, Nat.reduceEqDiff, Int.reduceNeg, reduceCtorEq, decide_true, and_self, Nat.zero_add, eq_self]
  by_cases h2 : a > b
  · simp only [qht, qqv, h1, h2, Ev.qm, Ev.exec, Ev.qb, Ev.qe, Ev.qc, Ev.qaf, Ev.Opnd.ev, Ev.Env.get, Ev.Env.set, Ev.look, Ev.qn, Ev.qo, Ev.qau, Ev.ql, Ev.qw, Ev.qae, Ev.kill, Ev.qad, Ev.qd, Ev.qa4, Ev.qal, ↓Ev.qq, ↓reduceIte, List.length_cons, List.length_nil, List.take_nil, Nat.reduceAdd, Nat.reduceEqDiff, Int.reduceNeg, reduceCtorEq, decide_true, decide_false, Bool.false_eq_true, and_self, Nat.zero_add, eq_self]
  · simp only [qht, qqv, h1, h2, Ev.qm, Ev.exec, Ev.qb, Ev.qe, Ev.qc, Ev.qaf, Ev.Opnd.ev, Ev.Env.get, Ev.Env.set, Ev.look, Ev.qn, Ev.qo, Ev.qau, Ev.ql, Ev.qw, Ev.qae, Ev.kill, Ev.qad, Ev.qd, Ev.qa4, Ev.qal, ↓Ev.qq, ↓reduceIte, List.length_cons, List.length_nil, List.take_nil, Nat.reduceAdd, Nat.reduceEqDiff, Int.reduceNeg, reduceCtorEq, decide_false, Bool.false_eq_true, and_self, Nat.zero_add, eq_self]
def qkn : List Int → List Int → Int
  | x :: a, y :: b => if x = y then qkn a b else qqv x y
  | [], b => if b.length = 0 then 0 else -1
  | _ :: _, [] => 1
theorem qva : ∀ a b : List Int, ((a.zip b).all (fun z => decide (z.1 = z.2)) = true → qkn a b = qqv a.length b.length) ∧ ∀ x, (a.zip b).find? (fun z => !decide (z.1 = z.2)) = some x → qkn a b = qqv x.1 x.2
  | [], b => by
    refine ⟨fun _ => ?_, fun x h => by simp at h⟩
    cases b with
    | nil => rfl
    | cons y b =>
      have : ((0 : Nat) : Int) < ((y :: b).length : Int) := by simp only [List.length_cons]; omega
      simp only [qkn, List.length_cons, Nat.succ_ne_zero, if_false, qqv, List.length_nil]
      rw [if_pos (by omega)]
  | x :: a, [] => by
    refine ⟨fun _ => ?_, fun x h => by simp at h⟩
    simp only [qkn, qqv, List.length_cons, List.length_nil]
    rw [if_neg (by omega), if_pos (by omega)]
  | x :: a, y :: b => by
    obtain ⟨h1, h2⟩ := qva a b
    simp only [List.zip_cons_cons, List.all_cons, List.find?_cons, qkn, List.length_cons]
    by_cases h : x = y
    · simp only [h, decide_true, Bool.true_and, if_true, Bool.not_true]
      refine ⟨fun k => ?_, h2⟩
      rw [h1 k]; unfold qqv
      have e1 : ((a.length : Int) < b.length) ↔ (((a.length + 1 : Nat) : Int) < ((b.length + 1 : Nat) : Int)) := by omega
      have e2 : ((a.length : Int) > b.length) ↔ (((a.length + 1 : Nat) : Int) > ((b.length + 1 : Nat) : Int)) := by omega
      simp only [e1, e2]
    · simp only [h, decide_false, Bool.false_and, if_false, Bool.not_false]
      exact ⟨fun k => by simp at k, fun z k => by simp at k; rw [← k]⟩
theorem qy2 (a b : Int) : qqv a b = 0 ↔ a = b := by
  unfold qqv; split
  · constructor <;> intro h <;> omega
  split
  · constructor <;> intro h <;> omega
  · constructor <;> intro h <;> omega
theorem qux : ∀ a b : List Int, qkn a b = 0 ↔ a = b
  | [], [] => by simp [qkn]
  | [], y :: b => by simp [qkn]
  | x :: a, [] => by simp [qkn]
  | x :: a, y :: b => by
    simp only [qkn, List.cons.injEq]
    split
    next h => rw [qux a b]; simp [h]
    next h => rw [qy2]; simp [h]
section
variable (a b : List Int) (c d : Bool)
theorem q02 (h1 : a.length ≤ 9223372036854775807) (h2 : b.length ≤ 9223372036854775807) :
    ∃ y, itB (exec (evL T) itL none qei) (Ev.qs [0, 1, 5] true 0) ⟨[(0, (.fsl ((a).map qcp) c)), (1, (.fsl ((b).map qcp) d)), (5, (.v (.int .i64 (0))))], []⟩ [] = some y ∧
      ((a.zip b).all (fun z => decide (z.1 = z.2)) = true ∧ (y.1 = .exit 0 ∧ y.2.1.marks = [] ∧ y.2.2 = [] ∧ Ev.look y.2.1.vars 0 = some (.fsl ((a).map qcp) c) ∧ Ev.look y.2.1.vars 1 = some (.fsl ((b).map qcp) d)) ∨
      (a.zip b).all (fun z => decide (z.1 = z.2)) = false ∧ ∃ x, (a.zip b).find? (fun z => !decide (z.1 = z.2)) = some x ∧ (y.1 = .ret ∧ y.2.1.marks = [] ∧ y.2.2 = [] ∧ Ev.look y.2.1.vars 4 = some (.v (.int .i64 (qqv x.1 x.2))))) := by
  have hzl : (a.zip b).length = min a.length b.length := List.length_zip
  refine qfg (a.zip b) (fun i => ⟨[(0, (.fsl ((a).map qcp) c)), (1, (.fsl ((b).map qcp) d)), (5, (.v (.int .i64 (i))))], []⟩) [] (fun z => decide (z.1 = z.2)) _ (fun x y => _) ?_ ?_ ?_
  · intro i x hi hx hp
    rw [hzl] at hi
    have hi' : (i : Int) < (a.length : Int) := by omega
    have hi2 : (i : Int) < (b.length : Int) := by omega
    have hw : IntKind.i64.wrap ((i : Int) + 1) = ((i + 1 : Nat) : Int) := by rw [qat (by omega) (by omega)]; simp
    obtain ⟨hxa, hxb⟩ := List.getElem?_zip_eq_some.1 hx
    have hp' := of_decide_eq_true hp
    simp only [qei, Int.natCast_nonneg, Int.toNat_natCast, List.getElem?_map, Option.map_some, hxa, hxb, hi', hi2, hw, hp', qax, qcp, Ev.exec, Ev.qb, Ev.qe, Ev.qc, Ev.qaf, Ev.Opnd.ev, Ev.Env.get, Ev.Env.set, Ev.look, Ev.qi, Ev.qab, Ev.qaj, Ev.qbd, Ev.qo, Ev.qs, Ev.keep, Ev.qai, Ev.qaa, Ev.qd, Ev.qa4, Ev.qy, List.length_map, ↓Ev.qq, Ev.it1, ↓reduceIte, List.length_cons, List.length_nil, List.take_nil, List.head?_cons, Nat.reduceEqDiff, reduceCtorEq, decide_true, decide_false, Bool.and_self, Bool.false_eq_true, and_self, ne_eq, not_true_eq_false, Nat.zero_add, eq_self]
  · intro i x hi hx hp
    rw [hzl] at hi
    have hi' : (i : Int) < (a.length : Int) := by omega
    have hi2 : (i : Int) < (b.length : Int) := by omega
    obtain ⟨hxa, hxb⟩ := List.getElem?_zip_eq_some.1 hx
    have hp' : ¬ x.1 = x.2 := of_decide_eq_false hp
    have hc := qqr x.1 x.2
    simp only [qei, Int.natCast_nonneg, Int.toNat_natCast, List.getElem?_map, Option.map_some, hxa, hxb, hi', hi2, hp', hc, qcp, Ev.exec, Ev.qb, Ev.qe, Ev.qc, Ev.qa9, Ev.qaf, Ev.evs, Ev.Opnd.ev, Ev.Env.get, Ev.Env.set, Ev.look, Ev.qi, Ev.qab, Ev.qbd, Ev.qo, Ev.qa4, Ev.qj, Ev.qk, List.length_map, ↓Ev.qq, Ev.it1, ↓reduceIte, List.length_cons, List.length_nil, List.head?_cons, Nat.reduceEqDiff, reduceCtorEq, decide_true, Bool.and_self, Bool.false_eq_true, ne_eq, not_false_eq_true, Nat.zero_add, eq_self]
    exact ⟨_, rfl, rfl, rfl, rfl, rfl⟩
  · rw [hzl]
    by_cases hab : a.length ≤ b.length
    · rw [Nat.min_eq_left hab]
      simp only [qei, Int.lt_irrefl, Ev.exec, Ev.qb, Ev.qe, Ev.qc, Ev.qaf, Ev.Opnd.ev, Ev.Env.get, Ev.Env.set, Ev.Env.unset, Ev.look, Ev.qo, List.length_map, ↓Ev.qq, Ev.it1, ↓reduceIte, Nat.reduceEqDiff, reduceCtorEq, decide_false, Bool.false_eq_true, eq_self]
      exact ⟨_, rfl, rfl, rfl, rfl, rfl, rfl⟩
    · rw [Nat.min_eq_right (by omega)]
      have h3 : (b.length : Int) < (a.length : Int) := by omega
      simp only [qei, Int.lt_irrefl, h3, Ev.exec, Ev.qb, Ev.qe, Ev.qc, Ev.qaf, Ev.Opnd.ev, Ev.Env.get, Ev.Env.set, Ev.look, Ev.qo, List.length_map, ↓Ev.qq, Ev.it1, ↓reduceIte, Nat.reduceEqDiff, reduceCtorEq, decide_true, decide_false, Bool.false_eq_true, eq_self]
      exact ⟨_, rfl, rfl, rfl, rfl, rfl, rfl⟩
theorem qz6 (h1 : a.length ≤ 9223372036854775807) (h2 : b.length ≤ 9223372036854775807) : qbk (evL T) qfl [(.fsl ((a).map qcp) c), (.fsl ((b).map qcp) d)] = some (.v (.int .i64 (qkn a b))) := by
  obtain ⟨⟨y, e, σ⟩, k1, k2⟩ := q02 a b c d h1 h2
  simp only at k2
  obtain ⟨z1, z2⟩ := qva a b
  rw [qbk, qu qq6 qqs]
  rcases k2 with ⟨k3, rfl, k4, rfl, k5, k6⟩ | ⟨k3, x, k7, rfl, k4, rfl, k5⟩
  · have hc := qqr a.length b.length
    rw [z1 k3]
    simp only [qgl, k1, k4, k5, k6, hc, qax, Ev.qm, Ev.exec, Ev.qb, Ev.qe, Ev.qc, Ev.qa9, Ev.qaf, Ev.evs, Ev.Opnd.ev, Ev.Env.get, Ev.Env.set, Ev.look, Ev.qn, Ev.ql, Ev.qw, Ev.qae, Ev.kill, Ev.qad, Ev.qs, Ev.keep, Ev.qai, Ev.qaa, Ev.qd, Ev.qa4, Ev.qy, Ev.qj, Ev.qk, Ev.qal, List.length_map, ↓Ev.qq, ↓Ev.qan, ↓reduceIte, List.length_cons, List.length_nil, List.take_nil, Nat.reduceAdd, Nat.reduceEqDiff, reduceCtorEq, Bool.and_self, and_self, Nat.zero_add, eq_self]
  · rw [z2 x k7]
    simp only [qgl, k1, k4, k5, qax, Ev.qm, Ev.exec, Ev.qb, Ev.qe, Ev.qc, Ev.qaf, Ev.Opnd.ev, Ev.Env.get, Ev.Env.set, Ev.look, Ev.qn, Ev.ql, Ev.qw, Ev.qae, Ev.kill, Ev.qad, Ev.qs, Ev.keep, Ev.qai, Ev.qaa, Ev.qd, Ev.qa4, Ev.qy, Ev.qal, ↓Ev.qq, ↓Ev.qan, ↓reduceIte, List.length_cons, List.length_nil, List.take_nil, Nat.reduceAdd, Nat.reduceEqDiff, reduceCtorEq, Bool.and_self, and_self, Nat.zero_add, eq_self]
theorem qu7 (h1 : a.length ≤ 9223372036854775807) (h2 : b.length ≤ 9223372036854775807) : qbk (evL T) qgr [(.fsl ((a).map qcp) c), (.fsl ((b).map qcp) d)] = some (.v (.bool (decide (a = b)))) := by
  have hk := qz6 a b c d h1 h2
  have hz := qux a b
  rw [qbk, qu qvf qt4]
  by_cases h : a = b
  · have h3 := hz.2 h
    rw [h3] at hk
    simp only [h, decide_true]
    simp only [h] at hk
    simp only [qiv, hk, qax, Ev.qm, Ev.exec, Ev.qb, Ev.qe, Ev.qc, Ev.qa9, Ev.qaf, Ev.evs, Ev.Opnd.ev, Ev.Env.get, Ev.Env.set, Ev.look, Ev.qn, Ev.qak, Ev.ql, Ev.qw, Ev.qae, Ev.kill, Ev.qad, Ev.qd, Ev.qa4, Ev.qy, Ev.qj, Ev.qk, Ev.qal, ↓Ev.qq, ↓reduceIte, List.length_cons, List.length_nil, List.take_nil, Nat.reduceAdd, Nat.reduceEqDiff, reduceCtorEq, decide_true, Bool.and_self, and_self, Nat.zero_add, eq_self]
  · have h3 : ¬ qkn a b = 0 := fun k => h (hz.1 k)
    simp only [h, decide_false]
    simp only [qiv, hk, h3, qax, Ev.qm, Ev.exec, Ev.qb, Ev.qe, Ev.qc, Ev.qa9, Ev.qaf, Ev.evs, Ev.Opnd.ev, Ev.Env.get, Ev.Env.set, Ev.look, Ev.qn, Ev.qak, Ev.ql, Ev.qw, Ev.qae, Ev.kill, Ev.qad, Ev.qd, Ev.qa4, Ev.qy, Ev.qj, Ev.qk, Ev.qal, ↓Ev.qq, ↓reduceIte, List.length_cons, List.length_nil, List.take_nil, Nat.reduceAdd, Nat.reduceEqDiff, reduceCtorEq, decide_false, Bool.and_self, and_self, Nat.zero_add, eq_self]
end
structure Evt.Short (x : Evt) : Prop where
  key : x.key.length ≤ 9223372036854775807
theorem qsj {α : Type} [DecidableEq α] : ∀ {a b : List α}, a.length = b.length → ((a.zip b).all (fun z => decide (z.1 = z.2)) = true ↔ a = b)
  | [], [], _ => by simp
  | x :: a, y :: b, h => by
    rw [List.zip_cons_cons, List.all_cons, Bool.and_eq_true, decide_eq_true_eq, qsj (a := a) (b := b) (by simpa using h), List.cons.injEq]
  | [], _ :: _, h => by simp at h
  | _ :: _, [], h => by simp at h
section
variable (a b : List Evt) (c d : Bool)
end
set_option maxRecDepth 10000
structure Lp.Short (x : Lp) : Prop where
  len : x.procs.length ≤ 9223372036854775807
  timer : ∀ q ∈ x.procs, q.timer.length ≤ 9223372036854775807
section
variable (a b : Lp) (cf df : Bool)
theorem q55 (h1 : a.Short) (h2 : b.Short) : qbk (evL T) qim [(.agg [(.v (.int .i64 (a.r0))), (.v (.int .i64 (a.r1))), (.fsl ((a.procs).map Pr.r) cf), (.v (.int .i64 (a.sum)))]), (.agg [(.v (.int .i64 (b.r0))), (.v (.int .i64 (b.r1))), (.fsl ((b.procs).map Pr.r) df), (.v (.int .i64 (b.sum)))])] = some (.v (.bool (decide (a = b)))) := by
  obtain ⟨ar0, ar1, ap, as'⟩ := a
  obtain ⟨br0, br1, bp, bs'⟩ := b
  obtain ⟨l1, t1⟩ := h1
  obtain ⟨l2, t2⟩ := h2
  dsimp only at *
  simp only [Lp.mk.injEq]
  rw [qbk, qu qv5 qus]
  by_cases e1 : ar0 = br0
  case neg =>
    have e1' : (ar0 == br0) = false := beq_false_of_ne e1
    simp only [qfp, e1, e1', false_and, decide_false, Bool.false_and, Ev.qm, Ev.exec, Ev.qb, Ev.qe, Ev.qc, Ev.qaf, Ev.Opnd.ev, Ev.Env.get, Ev.Env.set, Ev.Env.unset, Ev.look, Ev.qn, Ev.qi, Ev.qab, Ev.AV.cells, Ev.qv, Ev.AV.plain, Ev.qfm, Ev.ql, Ev.qw, Ev.qae, Ev.kill, Ev.qad, Ev.qd, Ev.qa4, Ev.qal, ↓Ev.qq, ↓reduceIte, List.length_cons, List.length_nil, List.take_succ_cons, List.take_zero, List.take_nil, List.drop_zero, Nat.reduceAdd, Nat.reduceEqDiff, Nat.reduceLeDiff, reduceCtorEq, decide_false, Bool.and_self, Bool.and_true, Bool.not_false, Bool.true_eq_false, and_self, ne_eq, not_false_eq_true, List.cons_ne_nil, Nat.zero_add, eq_self, Bool.false_and, false_and]
  by_cases e2 : ar1 = br1
  case neg =>
    have e2' : (ar1 == br1) = false := beq_false_of_ne e2
    simp only [qfp, e1, e2, e2', false_and, and_false, decide_false, Bool.and_false, beq_self_eq_true, Bool.and_true, Ev.qm, Ev.exec, Ev.qb, Ev.qe, Ev.qc, Ev.qaf, Ev.Opnd.ev, Ev.Env.get, Ev.Env.set, Ev.Env.unset, Ev.look, Ev.qn, Ev.qi, Ev.qab, Ev.AV.cells, Ev.qv, Ev.AV.plain, Ev.qfm, Ev.ql, Ev.qw, Ev.qae, Ev.kill, Ev.qad, Ev.qd, Ev.qa4, Ev.qal, ↓Ev.qq, ↓reduceIte, List.length_cons, List.length_nil, List.take_succ_cons, List.take_zero, List.take_nil, List.drop_zero, Nat.reduceAdd, Nat.reduceEqDiff, Nat.reduceLeDiff, reduceCtorEq, decide_false, Bool.and_self, Bool.and_true, Bool.not_false, Bool.true_eq_false, and_self, ne_eq, not_false_eq_true, List.cons_ne_nil, Nat.zero_add, eq_self, beq_self_eq_true, Bool.and_false, false_and, and_false]
  subst e1
  subst e2
  by_cases e3 : as' = bs'
  case neg => simp only [qfp, e3, and_false, decide_false, beq_self_eq_true, Ev.qm, Ev.exec, Ev.qb, Ev.qe, Ev.qc, Ev.qaf, Ev.Opnd.ev, Ev.Env.get, Ev.Env.set, Ev.Env.unset, Ev.look, Ev.qn, Ev.qi, Ev.qab, Ev.AV.cells, Ev.qv, Ev.AV.plain, Ev.qbd, Ev.qfm, Ev.ql, Ev.qw, Ev.qae, Ev.kill, Ev.qad, Ev.qd, Ev.qa4, Ev.qal, ↓Ev.qq, ↓reduceIte, List.length_cons, List.length_nil, List.take_succ_cons, List.take_zero, List.take_nil, List.drop_succ_cons, List.drop_zero, List.head?_cons, Nat.reduceAdd, Nat.reduceEqDiff, Nat.reduceLeDiff, reduceCtorEq, decide_true, decide_false, Bool.and_self, Bool.not_true, Bool.false_eq_true, Bool.true_eq_false, and_self, ne_eq, not_false_eq_true, List.cons_ne_nil, Nat.zero_add, eq_self, beq_self_eq_true, and_false]
  subst e3
  by_cases hab : ap.length = bp.length
  case neg =>
    have hab' : ¬ (ap.length : Int) = (bp.length : Int) := by omega
    have : ¬ ap = bp := fun h => hab (by rw [h])
    simp only [qfp, hab', this, and_false, decide_false, beq_self_eq_true, Ev.qm, Ev.exec, Ev.qb, Ev.qe, Ev.qc, Ev.qaf, Ev.Opnd.ev, Ev.Env.get, Ev.Env.set, Ev.look, Ev.qn, Ev.qi, Ev.qab, Ev.AV.cells, Ev.qv, Ev.AV.plain, Ev.qbd, Ev.qfm, Ev.ql, Ev.qw, Ev.qae, Ev.kill, Ev.qad, Ev.qd, Ev.qa4, Ev.qal, List.length_map, ↓Ev.qq, ↓reduceIte, List.length_cons, List.length_nil, List.take_succ_cons, List.take_zero, List.take_nil, List.drop_succ_cons, List.drop_zero, List.head?_cons, Nat.reduceAdd, Nat.reduceEqDiff, Nat.reduceLeDiff, reduceCtorEq, decide_true, decide_false, Bool.and_self, Bool.not_true, Bool.false_eq_true, and_self, and_true, ne_eq, not_false_eq_true, not_true_eq_false, List.cons_ne_nil, Nat.zero_add, eq_self, beq_self_eq_true, and_false]
  have hab' : (ap.length : Int) = (bp.length : Int) := by omega
  have hzl : (ap.zip bp).length = ap.length := by rw [List.length_zip, ← hab, Nat.min_self]
  have hL : ∃ y, itB (exec (evL T) itL none qe0) (Ev.qs [2, 3, 5] true 0) ⟨[(2, .fptr [(.v (.int .i64 (ar0))), (.v (.int .i64 (ar1))), (.fsl ((ap).map Pr.r) cf), (.v (.int .i64 (as')))]), (3, .fptr [(.v (.int .i64 (ar0))), (.v (.int .i64 (ar1))), (.fsl ((bp).map Pr.r) df), (.v (.int .i64 (as')))]), (5, (.v (.int .i64 (0))))], []⟩ [] = some y ∧ ((ap.zip bp).all (fun z => decide (z.1 = z.2)) = true ∧ (y.1 = .exit 0 ∧ y.2.1.marks = [] ∧ y.2.2 = []) ∨
      (ap.zip bp).all (fun z => decide (z.1 = z.2)) = false ∧ ∃ x, (ap.zip bp).find? (fun z => !decide (z.1 = z.2)) = some x ∧ (y.1 = .ret ∧ y.2.1.marks = [] ∧ y.2.2 = [.row 4 [x.1.r] 0, .row 4 [x.2.r] 0] ∧ Ev.look y.2.1.vars 4 = some (.v (.bool (false))))) := by
    refine qfg (ap.zip bp) (fun i => ⟨[(2, .fptr [(.v (.int .i64 (ar0))), (.v (.int .i64 (ar1))), (.fsl ((ap).map Pr.r) cf), (.v (.int .i64 (as')))]), (3, .fptr [(.v (.int .i64 (ar0))), (.v (.int .i64 (ar1))), (.fsl ((bp).map Pr.r) df), (.v (.int .i64 (as')))]), (5, (.v (.int .i64 (i))))], []⟩) [] (fun z => decide (z.1 = z.2)) _ (fun x y => _) ?_ ?_ ?_
    · intro i x hi hx hp
      rw [hzl] at hi
      have hi' : (i : Int) < (ap.length : Int) := by omega
      have hw : IntKind.i64.wrap ((i : Int) + 1) = ((i + 1 : Nat) : Int) := by rw [qat (by omega) (by omega)]; simp
      obtain ⟨hxa, hxb⟩ := List.getElem?_zip_eq_some.1 hx
      obtain ⟨⟨p1, p2, p3, p4⟩, q⟩ := x
      have hv := qu7 p4 p4 false false (t1 _ (List.mem_of_getElem? hxa)) (t1 _ (List.mem_of_getElem? hxa))
      simp only [decide_true] at hv
      simp only [decide_eq_true_eq] at hp
      subst hp
      cases p3 <;> simp only [qe0, Int.natCast_nonneg, Int.toNat_natCast, List.getElem?_map, Option.map_some, hxa, hxb, hi', hw, hv, qar, qax, Pr.r, Ev.exec, Ev.qb, Ev.qe, Ev.qc, Ev.qa9, Ev.qaf, Ev.evs, Ev.Opnd.ev, Ev.Env.get, Ev.Env.set, Ev.look, Ev.qi, Ev.qab, Ev.AV.cells, Ev.qv, Ev.AV.plain, Ev.qaj, Ev.qbd, Ev.qo, Ev.qs, Ev.keep, Ev.qai, Ev.qaa, Ev.qd, Ev.qa4, Ev.qy, Ev.qdf, Ev.qj, Ev.qk, List.length_map, ↓Ev.qq, Ev.it1, ↓reduceIte, List.length_cons, List.length_nil, List.getElem?_cons_zero, List.getElem?_cons_succ, List.take_succ_cons, List.take_zero, List.take_nil, List.drop_succ_cons, List.drop_zero, List.drop_nil, List.cons_append, List.nil_append, List.append_nil, List.set_cons_zero, List.set_cons_succ, List.head?_cons, Nat.reduceAdd, Nat.reduceEqDiff, decide_true, decide_false, Bool.and_self, Bool.not_true, Bool.false_eq_true, and_self, ne_eq, not_false_eq_true, not_true_eq_false, List.cons_ne_nil, Nat.zero_add, Nat.add_zero, Nat.le_refl, eq_self, beq_self_eq_true]
    · intro i x hi hx hp
      rw [hzl] at hi
      have hi' : (i : Int) < (ap.length : Int) := by omega
      obtain ⟨hxa, hxb⟩ := List.getElem?_zip_eq_some.1 hx
      obtain ⟨⟨p1, p2, p3, p4⟩, ⟨q1, q2, q3, q4⟩⟩ := x
      have hv := qu7 p4 q4 false false (t1 _ (List.mem_of_getElem? hxa)) (t2 _ (List.mem_of_getElem? hxb))
      simp only [decide_eq_false_iff_not, Pr.mk.injEq] at hp
      by_cases f1 : p1 = q1
      case neg =>
        simp only [qe0, Int.natCast_nonneg, Int.toNat_natCast, List.getElem?_map, Option.map_some, hxa, hxb, hi', f1, Pr.r, Ev.exec, Ev.qb, Ev.qe, Ev.qc, Ev.qaf, Ev.Opnd.ev, Ev.Env.get, Ev.Env.set, Ev.Env.unset, Ev.look, Ev.qi, Ev.qab, Ev.AV.cells, Ev.qv, Ev.AV.plain, Ev.qbd, Ev.qo, List.length_map, ↓Ev.qq, Ev.it1, ↓reduceIte, List.length_cons, List.length_nil, List.getElem?_cons_zero, List.getElem?_cons_succ, List.take_succ_cons, List.take_zero, List.take_nil, List.drop_succ_cons, List.drop_zero, List.drop_nil, List.cons_append, List.nil_append, List.append_nil, List.set_cons_zero, List.set_cons_succ, List.head?_cons, Nat.reduceAdd, Nat.reduceEqDiff, decide_true, Bool.and_self, Bool.false_eq_true, Bool.true_eq_false, and_self, ne_eq, not_false_eq_true, List.cons_ne_nil, Nat.zero_add, Nat.add_zero, Nat.le_refl, eq_self]
        exact ⟨_, rfl, rfl, rfl, rfl, rfl⟩
      by_cases f2 : p2 = q2
      case neg =>
        simp only [qe0, Int.natCast_nonneg, Int.toNat_natCast, List.getElem?_map, Option.map_some, hxa, hxb, hi', f1, f2, Pr.r, Ev.exec, Ev.qb, Ev.qe, Ev.qc, Ev.qaf, Ev.Opnd.ev, Ev.Env.get, Ev.Env.set, Ev.Env.unset, Ev.look, Ev.qi, Ev.qab, Ev.AV.cells, Ev.qv, Ev.AV.plain, Ev.qbd, Ev.qo, List.length_map, ↓Ev.qq, Ev.it1, ↓reduceIte, List.length_cons, List.length_nil, List.getElem?_cons_zero, List.getElem?_cons_succ, List.take_succ_cons, List.take_zero, List.take_nil, List.drop_succ_cons, List.drop_zero, List.drop_nil, List.cons_append, List.nil_append, List.append_nil, List.set_cons_zero, List.set_cons_succ, List.head?_cons, Nat.reduceAdd, Nat.reduceEqDiff, decide_true, decide_false, Bool.and_self, Bool.false_eq_true, Bool.true_eq_false, and_self, ne_eq, not_false_eq_true, not_true_eq_false, List.cons_ne_nil, Nat.zero_add, Nat.add_zero, Nat.le_refl, eq_self]
        exact ⟨_, rfl, rfl, rfl, rfl, rfl⟩
      by_cases f3 : p3 = q3
      case neg =>
        cases p3 <;> cases q3 <;> first | exact absurd rfl f3 | (simp only [qe0, Int.natCast_nonneg, Int.toNat_natCast, List.getElem?_map, Option.map_some, hxa, hxb, hi', f1, f2, Pr.r, Ev.exec, Ev.qb, Ev.qe, Ev.qc, Ev.qa9, Ev.qaf, Ev.evs, Ev.Opnd.ev, Ev.Env.get, Ev.Env.set, Ev.Env.unset, Ev.look, Ev.qi, Ev.qab, Ev.AV.cells, Ev.qv, Ev.AV.plain, Ev.qbd, Ev.qo, Ev.qs, Ev.keep, Ev.qd, List.length_map, ↓Ev.qq, Ev.it1, ↓reduceIte, List.length_cons, List.length_nil, List.getElem?_cons_zero, List.getElem?_cons_succ, List.take_succ_cons, List.take_zero, List.take_nil, List.drop_succ_cons, List.drop_zero, List.drop_nil, List.cons_append, List.nil_append, List.append_nil, List.set_cons_zero, List.set_cons_succ, List.head?_cons, Nat.reduceAdd, Nat.reduceEqDiff, decide_true, decide_false, Bool.and_self, Bool.false_eq_true, and_self, and_true, ne_eq, not_false_eq_true, not_true_eq_false, List.cons_ne_nil, Nat.zero_add, Nat.add_zero, Nat.le_refl, eq_self]; exact ⟨_, rfl, rfl, rfl, rfl, rfl⟩)
      have f4 : ¬ p4 = q4 := fun h => hp ⟨f1, f2, f3, h⟩
      simp only [f4, decide_false] at hv
      subst f3
      cases p3 <;> (simp only [qe0, Int.natCast_nonneg, Int.toNat_natCast, List.getElem?_map, Option.map_some, hxa, hxb, hi', f1, f2, hv, qax, Pr.r, Ev.exec, Ev.qb, Ev.qe, Ev.qc, Ev.qa9, Ev.qaf, Ev.evs, Ev.Opnd.ev, Ev.Env.get, Ev.Env.set, Ev.look, Ev.qi, Ev.qab, Ev.AV.cells, Ev.qv, Ev.AV.plain, Ev.qbd, Ev.qo, Ev.qy, Ev.qj, Ev.qk, List.length_map, ↓Ev.qq, Ev.it1, ↓reduceIte, List.length_cons, List.length_nil, List.getElem?_cons_zero, List.getElem?_cons_succ, List.take_succ_cons, List.take_zero, List.take_nil, List.drop_succ_cons, List.drop_zero, List.drop_nil, List.cons_append, List.nil_append, List.append_nil, List.set_cons_zero, List.set_cons_succ, List.head?_cons, Nat.reduceAdd, Nat.reduceEqDiff, decide_true, decide_false, Bool.and_self, Bool.not_true, Bool.not_false, Bool.false_eq_true, and_self, ne_eq, not_false_eq_true, not_true_eq_false, List.cons_ne_nil, Nat.zero_add, Nat.add_zero, Nat.le_refl, eq_self, beq_self_eq_true]; exact ⟨_, rfl, rfl, rfl, rfl, rfl⟩)
    · rw [hzl]
      simp only [qe0, Int.lt_irrefl, Ev.exec, Ev.qb, Ev.qe, Ev.qc, Ev.qaf, Ev.Opnd.ev, Ev.Env.get, Ev.Env.set, Ev.look, Ev.qi, Ev.qab, Ev.qo, List.length_map, ↓Ev.qq, Ev.it1, ↓reduceIte, List.drop_succ_cons, List.drop_zero, List.head?_cons, Nat.reduceEqDiff, decide_false, Bool.false_eq_true, eq_self]
      exact ⟨_, rfl, rfl, rfl, rfl⟩
  obtain ⟨⟨y, e, σ⟩, k1, k2⟩ := hL
  simp only at k2
  rcases k2 with ⟨k3, rfl, k4, rfl⟩ | ⟨k3, x, _, rfl, k4, rfl, k5⟩
  · have : ap = bp := (qsj hab).1 k3
    subst this
    simp only [qfp, k1, k4, qar, beq_self_eq_true, and_self, decide_true, Ev.qm, Ev.exec, Ev.qb, Ev.qe, Ev.qc, Ev.qaf, Ev.Opnd.ev, Ev.Env.get, Ev.Env.set, Ev.look, Ev.qn, Ev.qi, Ev.qab, Ev.AV.cells, Ev.qv, Ev.AV.plain, Ev.qbd, Ev.qfm, Ev.ql, Ev.qw, Ev.qae, Ev.kill, Ev.qad, Ev.qs, Ev.keep, Ev.qai, Ev.qaa, Ev.qd, Ev.qa4, Ev.qy, Ev.qdf, Ev.qj, Ev.qk, Ev.qal, List.length_map, ↓Ev.qq, ↓Ev.qan, ↓reduceIte, List.length_cons, List.length_nil, List.take_succ_cons, List.take_zero, List.take_nil, List.drop_succ_cons, List.drop_zero, List.head?_cons, Nat.reduceAdd, Nat.reduceEqDiff, Nat.reduceLeDiff, reduceCtorEq, decide_true, decide_false, Bool.and_self, Bool.not_true, Bool.false_eq_true, and_self, ne_eq, not_false_eq_true, not_true_eq_false, List.cons_ne_nil, Nat.zero_add, eq_self, beq_self_eq_true]
  · have : ¬ ap = bp := fun h => by rw [(qsj hab).2 h] at k3; cases k3
    simp only [this]
    simp only [qfp, hab', k1, k4, k5, qar, beq_self_eq_true, and_false, decide_false, Ev.qm, Ev.exec, Ev.qb, Ev.qe, Ev.qc, Ev.qaf, Ev.Opnd.ev, Ev.Env.get, Ev.Env.set, Ev.look, Ev.qn, Ev.qi, Ev.qab, Ev.AV.cells, Ev.qv, Ev.AV.plain, Ev.qbd, Ev.qfm, Ev.ql, Ev.qw, Ev.qae, Ev.kill, Ev.qad, Ev.qs, Ev.keep, Ev.qai, Ev.qaa, Ev.qd, Ev.qa4, Ev.qy, Ev.qdf, Ev.qj, Ev.qk, Ev.qal, List.length_map, ↓Ev.qq, ↓Ev.qan, ↓reduceIte, List.length_cons, List.length_nil, List.take_succ_cons, List.take_zero, List.take_nil, List.drop_succ_cons, List.drop_zero, List.head?_cons, Nat.reduceAdd, Nat.reduceEqDiff, Nat.reduceLeDiff, reduceCtorEq, decide_false, Bool.and_self, Bool.not_true, Bool.false_eq_true, and_self, and_true, ne_eq, not_false_eq_true, not_true_eq_false, List.cons_ne_nil, Nat.zero_add, eq_self, beq_self_eq_true, and_false]
end
def lpF (x : Lp × Bool) : List AV := [(.v (.int .i64 (x.1.r0))), (.v (.int .i64 (x.1.r1))), (.fsl ((x.1.procs).map Pr.r) x.2), (.v (.int .i64 (x.1.sum)))]
theorem lpF_lo (n : Nat) (x : Lp × Bool) : los n (lpF x) = true := by simp only [lpF, qar, Ev.qa4, Ev.qy, Ev.qj, Ev.qk, Bool.and_self, eq_self]
theorem qp3 (n : Nat) (l : List (Lp × Bool)) : qit n (l.map lpF) = true := qjz (lpF_lo n) l
section
variable (a b : List (Lp × Bool)) (c d : Bool)
end
set_option maxRecDepth 10000
section
variable (a b : Lp)
end
set_option maxRecDepth 10000
theorem qz2 (l : List Int) (c : Bool) (n : Int) (h : l.length ≤ 1000) : qbk (evL T) qje [(.fsl ((l).map qcp) c), (.v (.int .i64 (n)))] = some (.fsl ((l ++ [n]).map qcp) false) := by
  have h' : (l.length + 1) * 8 ≤ 140737488355328 := by omega
  have h2 : l.length * 8 ≤ 140737488355328 := by omega
  have htl : List.take l.length (l.map qcp) = l.map qcp := List.take_of_length_le (by simp)
  have htk : ∀ e : List AV, List.take (l.length + 1) (l.map qcp ++ [e]) = l.map qcp ++ [e] := fun e => List.take_of_length_le (by simp)
  have hr : (l ++ [n]).map qcp = l.map qcp ++ [[(.v (.int .i64 (n)))]] := by rw [List.map_append]; rfl
  rw [qbk, qu qxn qv2]
  rw [hr]
  simp only [qma, h', h2, htl, htk, qn4, q8j, qax, Ev.qm, Ev.exec, Ev.qb, Ev.qe, Ev.qc, Ev.qaf, Ev.qvy, Ev.Opnd.ev, Ev.Env.get, Ev.Env.set, Ev.look, Ev.qn, Ev.qd5, Ev.qjo, Ev.AV.cells, Ev.AV.uc, Ev.qv, Ev.AV.plain, Ev.ql, Ev.qw, Ev.qae, Ev.kill, Ev.qad, Ev.qd, Ev.qa4, Ev.qb8, Ev.qj, Ev.qk, Ev.qac, Ev.qaq, Ev.qd8, Ev.qed, Ev.qk1, Ev.qiq, List.replicate_one, List.replicate_zero, List.length_map, ↓Ev.qq, ↓reduceIte, List.length_cons, List.length_nil, List.length_append, List.getElem?_cons_zero, List.take_zero, List.drop_zero, List.nil_append, List.set_cons_zero, Nat.reduceAdd, Nat.reduceEqDiff, Nat.reduceMul, Nat.reduceLT, Nat.reduceLeDiff, Nat.reducePow, reduceCtorEq, decide_true, decide_false, Bool.and_self, Bool.false_eq_true, and_self, and_true, ne_eq, not_false_eq_true, not_true_eq_false, List.cons_ne_nil, Nat.zero_add, Nat.lt_add_one, Nat.le_refl, eq_self, and_false]
theorem qn7 (l : List (List Int)) (k : List Int) (c : Bool) (h : l.length ≤ 1000) : qbk (evL T) qfo [(.fsl ((l).map qfe) c), (.fsl ((k).map qcp) false)] = some (.fsl ((l ++ [k]).map qfe) false) := by
  have h' : (l.length + 1) * 24 ≤ 140737488355328 := by omega
  have h2 : l.length * 24 ≤ 140737488355328 := by omega
  have htl : List.take l.length (l.map qfe) = l.map qfe := List.take_of_length_le (by simp)
  have htk : ∀ e : List AV, List.take (l.length + 1) (l.map qfe ++ [e]) = l.map qfe ++ [e] := fun e => List.take_of_length_le (by simp)
  have hr : (l ++ [k]).map qfe = l.map qfe ++ [[(.fsl ((k).map qcp) false)]] := by rw [List.map_append]; rfl
  rw [qbk, qu qsr qsc]
  rw [hr]
  simp only [qja, h', h2, htl, htk, qn4, keys_ok, qb0, qax, Ev.qm, Ev.exec, Ev.qb, Ev.qe, Ev.qc, Ev.qaf, Ev.qvy, Ev.Opnd.ev, Ev.Env.get, Ev.Env.set, Ev.look, Ev.qn, Ev.qd5, Ev.qjo, Ev.AV.cells, Ev.AV.uc, Ev.qv, Ev.AV.plain, Ev.ql, Ev.qw, Ev.qae, Ev.kill, Ev.qad, Ev.qd, Ev.qy, Ev.qb8, Ev.qj, Ev.qk, Ev.qac, Ev.qaq, Ev.qd8, Ev.qed, Ev.qk1, Ev.qiq, List.replicate_one, List.replicate_zero, List.length_map, ↓Ev.qq, ↓reduceIte, List.length_cons, List.length_nil, List.length_append, List.getElem?_cons_zero, List.take_zero, List.drop_zero, List.nil_append, List.set_cons_zero, Nat.reduceAdd, Nat.reduceEqDiff, Nat.reduceMul, Nat.reduceLT, Nat.reduceLeDiff, Nat.reducePow, reduceCtorEq, decide_true, decide_false, Bool.and_self, Bool.false_eq_true, and_self, and_true, ne_eq, not_false_eq_true, not_true_eq_false, List.cons_ne_nil, Nat.zero_add, Nat.lt_add_one, Nat.le_refl, eq_self, and_false]
section
variable (x : Ex)
theorem qeh (h : x.procs.length ≤ 1000) (i : Nat) (hi : i < x.procs.length) (q : Pr) : qbk (evL T) qe4 [(.agg [(.v (.int .i64 (x.r0))), (.v (.int .i64 (x.r1))), (.fsl ((x.procs).map Pr.r) false), (.v (.int .i64 (x.sum))), (.v (.int .i64 (x.ev.time))), (.fsl ((x.ev.key).map qcp) false), (.v (.int .i64 (x.ev.lp))), (.v (.int .i64 (x.ev.kind))), (.v (.int .i64 (x.ev.proc))), (.v (.int .i64 (x.ev.arg))), (.fsl ((x.out).map Evt.r) false), (.fsl ((x.gone).map qfe) false), (.v (.int .i64 (x.n))), (.v (.bool (x.over)))]), (.v (.int .i64 (i))), (.agg [(.v (.int .i64 (q.prog))), (.v (.int .i64 (q.pc))), (.v (.bool (q.alive))), (.fsl ((q.timer).map qcp) false)])] = some (.agg [(.v (.int .i64 ((x.setP i q).r0))), (.v (.int .i64 ((x.setP i q).r1))), (.fsl (((x.setP i q).procs).map Pr.r) false), (.v (.int .i64 ((x.setP i q).sum))), (.v (.int .i64 ((x.setP i q).ev.time))), (.fsl (((x.setP i q).ev.key).map qcp) false), (.v (.int .i64 ((x.setP i q).ev.lp))), (.v (.int .i64 ((x.setP i q).ev.kind))), (.v (.int .i64 ((x.setP i q).ev.proc))), (.v (.int .i64 ((x.setP i q).ev.arg))), (.fsl (((x.setP i q).out).map Evt.r) false), (.fsl (((x.setP i q).gone).map qfe) false), (.v (.int .i64 ((x.setP i q).n))), (.v (.bool ((x.setP i q).over)))]) := by
  have h2 : x.procs.length * 48 ≤ 140737488355328 := by omega
  have htl : ∀ e : List AV, List.take x.procs.length ((x.procs.map Pr.r).set i e) = (x.procs.map Pr.r).set i e := fun e => List.take_of_length_le (by simp)
  have hset : (x.procs.map Pr.r).set i [(.v (.int .i64 (q.prog))), (.v (.int .i64 (q.pc))), (.v (.bool (q.alive))), (.fsl ((q.timer).map qcp) false)] = (x.procs.set i q).map Pr.r := by rw [List.map_set]; rfl
  obtain ⟨q0, hq⟩ : ∃ q0, x.procs[i]? = some q0 := ⟨_, List.getElem?_eq_getElem hi⟩
  have ft : ∀ {τ : Type} (l : List τ) (f : τ → List AV), List.take l.length (l.map f) = l.map f := fun l f => List.take_of_length_le (by simp)
  have htl2 : List.take x.procs.length ((x.procs.set i q).map Pr.r) = (x.procs.set i q).map Pr.r := List.take_of_length_le (by simp)
  unfold Ex.setP
  rw [qbk, qu q1l qz9]
  simp only [qpz, htl2, h2, hi, hq, hset, q1e, Pr.r, Int.natCast_nonneg, Int.toNat_natCast, List.getElem?_map, Option.map_some, qax, qar, qah, qb0, Nat.reduceLT, Nat.reduceLeDiff, Ev.qm, Ev.exec, Ev.qb, Ev.qe, Ev.qc, Ev.qaf, Ev.Opnd.ev, Ev.Env.get, Ev.Env.set, Ev.look, Ev.qn, Ev.qi, Ev.qd5, Ev.qab, Ev.qjo, Ev.AV.cells, Ev.AV.uc, Ev.qv, Ev.AV.plain, Ev.ql, Ev.qw, Ev.qae, Ev.kill, Ev.qad, Ev.qd, Ev.qa4, Ev.qbn, Ev.qy, Ev.qj, Ev.qk, Ev.qal, List.length_set, List.replicate_zero, List.length_map, ↓Ev.qq, ↓reduceIte, List.length_cons, List.length_nil, List.getElem?_cons_zero, List.getElem?_cons_succ, List.take_succ_cons, List.take_zero, List.take_nil, List.drop_succ_cons, List.drop_zero, List.drop_nil, List.cons_append, List.nil_append, List.append_nil, List.set_cons_zero, List.set_cons_succ, List.head?_cons, Nat.reduceAdd, Nat.reduceEqDiff, Nat.reduceMul, Nat.reduceLT, Nat.reduceLeDiff, Nat.reducePow, reduceCtorEq, Bool.and_self, Bool.false_eq_true, and_self, ne_eq, not_false_eq_true, not_true_eq_false, List.cons_ne_nil, Nat.zero_add, Nat.add_zero, Nat.le_refl, eq_self, and_false]
theorem qi3 (h : x.Small) (d : Int) (t0 lp k p a : Int) (ks : List Int) :
    qbk (evL T) qfq [(.agg [(.v (.int .i64 (x.r0))), (.v (.int .i64 (x.r1))), (.fsl ((x.procs).map Pr.r) false), (.v (.int .i64 (x.sum))), (.v (.int .i64 (x.ev.time))), (.fsl ((x.ev.key).map qcp) false), (.v (.int .i64 (x.ev.lp))), (.v (.int .i64 (x.ev.kind))), (.v (.int .i64 (x.ev.proc))), (.v (.int .i64 (x.ev.arg))), (.fsl ((x.out).map Evt.r) false), (.fsl ((x.gone).map qfe) false), (.v (.int .i64 (x.n))), (.v (.bool (x.over)))]), (.v (.int .i64 (d))), .agg [(.v (.int .i64 (t0))), (.fsl ((ks).map qcp) false), (.v (.int .i64 (lp))), (.v (.int .i64 (k))), (.v (.int .i64 (p))), (.v (.int .i64 (a)))]] = some (.tup [(.agg [(.v (.int .i64 ((x.create d ⟨t0, ks, lp, k, p, a⟩).r0))), (.v (.int .i64 ((x.create d ⟨t0, ks, lp, k, p, a⟩).r1))), (.fsl (((x.create d ⟨t0, ks, lp, k, p, a⟩).procs).map Pr.r) false), (.v (.int .i64 ((x.create d ⟨t0, ks, lp, k, p, a⟩).sum))), (.v (.int .i64 ((x.create d ⟨t0, ks, lp, k, p, a⟩).ev.time))), (.fsl (((x.create d ⟨t0, ks, lp, k, p, a⟩).ev.key).map qcp) false), (.v (.int .i64 ((x.create d ⟨t0, ks, lp, k, p, a⟩).ev.lp))), (.v (.int .i64 ((x.create d ⟨t0, ks, lp, k, p, a⟩).ev.kind))), (.v (.int .i64 ((x.create d ⟨t0, ks, lp, k, p, a⟩).ev.proc))), (.v (.int .i64 ((x.create d ⟨t0, ks, lp, k, p, a⟩).ev.arg))), (.fsl (((x.create d ⟨t0, ks, lp, k, p, a⟩).out).map Evt.r) false), (.fsl (((x.create d ⟨t0, ks, lp, k, p, a⟩).gone).map qfe) false), (.v (.int .i64 ((x.create d ⟨t0, ks, lp, k, p, a⟩).n))), (.v (.bool ((x.create d ⟨t0, ks, lp, k, p, a⟩).over)))]), (.fsl ((x.kid).map qcp) false)]) := by
  have hk := qz2 x.ev.key false x.n h.key
  have hs : (x.out.length + 1) * 64 ≤ 140737488355328 := by have := h.out; omega
  have hs2 : x.out.length * 64 ≤ 140737488355328 := by have := h.out; omega
  have htl : List.take x.out.length (x.out.map Evt.r) = x.out.map Evt.r := List.take_of_length_le (by simp)
  have htk : ∀ e : List AV, List.take (x.out.length + 1) (x.out.map Evt.r ++ [e]) = x.out.map Evt.r ++ [e] := fun e => List.take_of_length_le (by simp)
  unfold Ex.create Ex.kid
  rw [qbk, qu qv4 qu8]
  by_cases ho : w64 (x.ev.time + d) > 1152921504606846976
  · have ho' : IntKind.i64.wrap (x.ev.time + d) > 1152921504606846976 := ho
    simp only [ho, if_true]
    simp only [qjr, hk, ho', qax, qar, qah, qb0, Nat.reduceLeDiff, Ev.qm, Ev.exec, Ev.qb, Ev.qe, Ev.qc, Ev.qa9, Ev.qaf, Ev.evs, Ev.Opnd.ev, Ev.Env.get, Ev.Env.set, Ev.look, Ev.qn, Ev.qi, Ev.qab, Ev.AV.cells, Ev.AV.uc, Ev.qv, Ev.AV.plain, Ev.qaj, Ev.qau, Ev.ql, Ev.qw, Ev.qae, Ev.kill, Ev.qad, Ev.qd, Ev.qa4, Ev.qbn, Ev.qbc, Ev.qy, Ev.qm0, Ev.AV.obj?, Ev.qj, Ev.qk, Ev.qal, ↓Ev.qq, ↓reduceIte, List.length_cons, List.length_nil, List.getElem?_cons_zero, List.getElem?_cons_succ, List.take_succ_cons, List.take_zero, List.take_nil, List.drop_succ_cons, List.drop_zero, List.drop_nil, List.cons_append, List.nil_append, List.append_nil, List.set_cons_zero, List.set_cons_succ, List.head?_cons, Nat.reduceAdd, Nat.reduceEqDiff, Nat.reduceBEq, Nat.reduceLeDiff, reduceCtorEq, decide_true, Bool.and_self, Bool.not_false, Bool.false_eq_true, and_self, ne_eq, not_false_eq_true, List.cons_ne_nil, Nat.zero_add, Nat.add_zero, Nat.le_refl, eq_self]
    done
  · have ho' : ¬ IntKind.i64.wrap (x.ev.time + d) > 1152921504606846976 := ho
    simp only [ho, if_false]
    have hr : ∀ e : Evt, (x.out ++ [e]).map Evt.r = x.out.map Evt.r ++ [e.r] := fun e => by rw [List.map_append]; rfl
    simp only [qjr, hk, ho', hs, hs2, htl, htk, hr, qn4, qw0, Evt.r, qax, qar, qah, qb0, Nat.reduceLT, Nat.reduceLeDiff, Ev.qm, Ev.exec, Ev.qb, Ev.qe, Ev.qc, Ev.qa9, Ev.qaf, Ev.qvy, Ev.evs, Ev.Opnd.ev, Ev.Env.get, Ev.Env.set, Ev.look, Ev.qn, Ev.qi, Ev.qd5, Ev.qab, Ev.qjo, Ev.AV.cells, Ev.AV.uc, Ev.qv, Ev.AV.plain, Ev.qaj, Ev.qau, Ev.ql, Ev.qw, Ev.qae, Ev.kill, Ev.qad, Ev.qd, Ev.qa4, Ev.qbn, Ev.qbc, Ev.qy, Ev.qm0, Ev.AV.obj?, Ev.qj, Ev.qk, Ev.qac, Ev.qaq, Ev.qd8, Ev.qed, Ev.qal, List.replicate_one, List.replicate_zero, List.length_map, ↓Ev.qq, ↓reduceIte, List.length_cons, List.length_nil, List.length_append, List.getElem?_cons_zero, List.getElem?_cons_succ, List.take_succ_cons, List.take_zero, List.take_nil, List.drop_succ_cons, List.drop_zero, List.drop_nil, List.cons_append, List.nil_append, List.append_nil, List.set_cons_zero, List.set_cons_succ, List.head?_cons, Nat.reduceAdd, Nat.reduceEqDiff, Nat.reduceBEq, Nat.reduceMul, Nat.reduceLT, Nat.reduceLeDiff, Nat.reducePow, reduceCtorEq, decide_true, decide_false, Bool.and_self, Bool.not_false, Bool.false_eq_true, and_self, ne_eq, not_false_eq_true, not_true_eq_false, List.cons_ne_nil, Nat.zero_add, Nat.add_zero, Nat.lt_add_one, Nat.le_refl, eq_self, and_false]
    done
end
set_option maxRecDepth 10000
def Pr.inc (q : Pr) : Pr := { q with pc := w64 (q.pc + 1) }
section
variable (x : Ex) (i : Nat) (op : OpI) (q : Pr)
theorem q6a (h : x.Small) (hq : x.procs[i]? = some q) (h1 : op.code = 1) :
    qbk (evL T) qdu [(.agg [(.v (.int .i64 (x.r0))), (.v (.int .i64 (x.r1))), (.fsl ((x.procs).map Pr.r) false), (.v (.int .i64 (x.sum))), (.v (.int .i64 (x.ev.time))), (.fsl ((x.ev.key).map qcp) false), (.v (.int .i64 (x.ev.lp))), (.v (.int .i64 (x.ev.kind))), (.v (.int .i64 (x.ev.proc))), (.v (.int .i64 (x.ev.arg))), (.fsl ((x.out).map Evt.r) false), (.fsl ((x.gone).map qfe) false), (.v (.int .i64 (x.n))), (.v (.bool (x.over)))]), (.v (.int .i64 (i))), (.agg [(.v (.int .i64 (op.code))), (.v (.int .i64 (op.a))), (.v (.int .i64 (op.b))), (.v (.int .i64 (op.c)))])] = some (.tup [(.agg [(.v (.int .i64 (((x.create op.a ⟨0, [], x.ev.lp, 1, i, 0⟩).setP i q.inc).r0))), (.v (.int .i64 (((x.create op.a ⟨0, [], x.ev.lp, 1, i, 0⟩).setP i q.inc).r1))), (.fsl ((((x.create op.a ⟨0, [], x.ev.lp, 1, i, 0⟩).setP i q.inc).procs).map Pr.r) false), (.v (.int .i64 (((x.create op.a ⟨0, [], x.ev.lp, 1, i, 0⟩).setP i q.inc).sum))), (.v (.int .i64 (((x.create op.a ⟨0, [], x.ev.lp, 1, i, 0⟩).setP i q.inc).ev.time))), (.fsl ((((x.create op.a ⟨0, [], x.ev.lp, 1, i, 0⟩).setP i q.inc).ev.key).map qcp) false), (.v (.int .i64 (((x.create op.a ⟨0, [], x.ev.lp, 1, i, 0⟩).setP i q.inc).ev.lp))), (.v (.int .i64 (((x.create op.a ⟨0, [], x.ev.lp, 1, i, 0⟩).setP i q.inc).ev.kind))), (.v (.int .i64 (((x.create op.a ⟨0, [], x.ev.lp, 1, i, 0⟩).setP i q.inc).ev.proc))), (.v (.int .i64 (((x.create op.a ⟨0, [], x.ev.lp, 1, i, 0⟩).setP i q.inc).ev.arg))), (.fsl ((((x.create op.a ⟨0, [], x.ev.lp, 1, i, 0⟩).setP i q.inc).out).map Evt.r) false), (.fsl ((((x.create op.a ⟨0, [], x.ev.lp, 1, i, 0⟩).setP i q.inc).gone).map qfe) false), (.v (.int .i64 (((x.create op.a ⟨0, [], x.ev.lp, 1, i, 0⟩).setP i q.inc).n))), (.v (.bool (((x.create op.a ⟨0, [], x.ev.lp, 1, i, 0⟩).setP i q.inc).over)))]), (.v (.bool (true)))]) := by
  have hl := (List.getElem?_eq_some_iff.1 hq).1
  have hc := qi3 x h op.a 0 x.ev.lp 1 i 0 []
  have hp := qeh (x.create op.a ⟨0, [], x.ev.lp, 1, i, 0⟩) h.procs i hl q.inc
  simp only [List.map_nil, Pr.inc, w64] at hc hp ⊢
  rw [qbk, qu qdq qdg]
  simp only [qdv, h1, hq, hc, hp, Pr.r, Int.natCast_nonneg, Int.toNat_natCast, List.getElem?_map, Option.map_some, qax, qar, qah, qb0, Nat.reduceLeDiff, Ev.qm, Ev.exec, Ev.qb, Ev.qe, Ev.qc, Ev.qa9, Ev.qaf, Ev.evs, Ev.Opnd.ev, Ev.Env.get, Ev.Env.set, Ev.look, Ev.qn, Ev.qi, Ev.qab, Ev.qff, Ev.AV.cells, Ev.AV.uc, Ev.qv, Ev.AV.plain, Ev.qaj, Ev.qak, Ev.ql, Ev.qw, Ev.qae, Ev.kill, Ev.qad, Ev.qd, Ev.qa4, Ev.qbn, Ev.qbc, Ev.qy, Ev.qj, Ev.qk, Ev.qac, Ev.qal, ↓Ev.qq, ↓reduceIte, List.length_cons, List.length_nil, List.getElem?_cons_zero, List.getElem?_cons_succ, List.take_succ_cons, List.take_zero, List.take_nil, List.drop_succ_cons, List.drop_zero, List.drop_nil, List.cons_append, List.nil_append, List.append_nil, List.set_cons_zero, List.set_cons_succ, List.head?_cons, Nat.reduceAdd, Nat.reduceEqDiff, Nat.reduceLeDiff, reduceCtorEq, decide_true, Bool.and_self, Bool.false_eq_true, and_self, ne_eq, not_false_eq_true, List.cons_ne_nil, Nat.zero_add, Nat.add_zero, Nat.le_refl, eq_self]
theorem q6k (h : x.Small) (hq : x.procs[i]? = some q) (h1 : op.code = 2) :
    qbk (evL T) qdu [(.agg [(.v (.int .i64 (x.r0))), (.v (.int .i64 (x.r1))), (.fsl ((x.procs).map Pr.r) false), (.v (.int .i64 (x.sum))), (.v (.int .i64 (x.ev.time))), (.fsl ((x.ev.key).map qcp) false), (.v (.int .i64 (x.ev.lp))), (.v (.int .i64 (x.ev.kind))), (.v (.int .i64 (x.ev.proc))), (.v (.int .i64 (x.ev.arg))), (.fsl ((x.out).map Evt.r) false), (.fsl ((x.gone).map qfe) false), (.v (.int .i64 (x.n))), (.v (.bool (x.over)))]), (.v (.int .i64 (i))), (.agg [(.v (.int .i64 (op.code))), (.v (.int .i64 (op.a))), (.v (.int .i64 (op.b))), (.v (.int .i64 (op.c)))])] = some (.tup [(.agg [(.v (.int .i64 (((x.create op.c ⟨0, [], op.a, 3, 0, op.b⟩).setP i q.inc).r0))), (.v (.int .i64 (((x.create op.c ⟨0, [], op.a, 3, 0, op.b⟩).setP i q.inc).r1))), (.fsl ((((x.create op.c ⟨0, [], op.a, 3, 0, op.b⟩).setP i q.inc).procs).map Pr.r) false), (.v (.int .i64 (((x.create op.c ⟨0, [], op.a, 3, 0, op.b⟩).setP i q.inc).sum))), (.v (.int .i64 (((x.create op.c ⟨0, [], op.a, 3, 0, op.b⟩).setP i q.inc).ev.time))), (.fsl ((((x.create op.c ⟨0, [], op.a, 3, 0, op.b⟩).setP i q.inc).ev.key).map qcp) false), (.v (.int .i64 (((x.create op.c ⟨0, [], op.a, 3, 0, op.b⟩).setP i q.inc).ev.lp))), (.v (.int .i64 (((x.create op.c ⟨0, [], op.a, 3, 0, op.b⟩).setP i q.inc).ev.kind))), (.v (.int .i64 (((x.create op.c ⟨0, [], op.a, 3, 0, op.b⟩).setP i q.inc).ev.proc))), (.v (.int .i64 (((x.create op.c ⟨0, [], op.a, 3, 0, op.b⟩).setP i q.inc).ev.arg))), (.fsl ((((x.create op.c ⟨0, [], op.a, 3, 0, op.b⟩).setP i q.inc).out).map Evt.r) false), (.fsl ((((x.create op.c ⟨0, [], op.a, 3, 0, op.b⟩).setP i q.inc).gone).map qfe) false), (.v (.int .i64 (((x.create op.c ⟨0, [], op.a, 3, 0, op.b⟩).setP i q.inc).n))), (.v (.bool (((x.create op.c ⟨0, [], op.a, 3, 0, op.b⟩).setP i q.inc).over)))]), (.v (.bool (false)))]) := by
  have hl := (List.getElem?_eq_some_iff.1 hq).1
  have hc := qi3 x h op.c 0 op.a 3 0 op.b []
  have hp := qeh (x.create op.c ⟨0, [], op.a, 3, 0, op.b⟩) h.procs i hl q.inc
  simp only [List.map_nil, Pr.inc, w64] at hc hp ⊢
  have k1 : ¬ (2 : Int) = 1 := by decide
  rw [qbk, qu qdq qdg]
  simp only [qdv, h1, k1, hq, hc, hp, Pr.r, Int.natCast_nonneg, Int.toNat_natCast, List.getElem?_map, Option.map_some, qax, qar, qah, qb0, Nat.reduceLeDiff, Ev.qm, Ev.exec, Ev.qb, Ev.qe, Ev.qc, Ev.qa9, Ev.qaf, Ev.evs, Ev.Opnd.ev, Ev.Env.get, Ev.Env.set, Ev.look, Ev.qn, Ev.qi, Ev.qab, Ev.qff, Ev.AV.cells, Ev.AV.uc, Ev.qv, Ev.AV.plain, Ev.qaj, Ev.qak, Ev.ql, Ev.qw, Ev.qae, Ev.kill, Ev.qad, Ev.qd, Ev.qa4, Ev.qbn, Ev.qbc, Ev.qy, Ev.qj, Ev.qk, Ev.qac, Ev.qal, ↓Ev.qq, ↓reduceIte, List.length_cons, List.length_nil, List.getElem?_cons_zero, List.getElem?_cons_succ, List.take_succ_cons, List.take_zero, List.take_nil, List.drop_succ_cons, List.drop_zero, List.drop_nil, List.cons_append, List.nil_append, List.append_nil, List.set_cons_zero, List.set_cons_succ, List.head?_cons, Nat.reduceAdd, Nat.reduceEqDiff, Nat.reduceLeDiff, reduceCtorEq, decide_true, decide_false, Bool.and_self, Bool.false_eq_true, and_self, ne_eq, not_false_eq_true, List.cons_ne_nil, Nat.zero_add, Nat.add_zero, Nat.le_refl, eq_self]
theorem q3z (h : x.Small) (hg : x.gone.length < 1000) (hq : x.procs[i]? = some q) (h1 : op.code = 3) :
    qbk (evL T) qdu [(.agg [(.v (.int .i64 (x.r0))), (.v (.int .i64 (x.r1))), (.fsl ((x.procs).map Pr.r) false), (.v (.int .i64 (x.sum))), (.v (.int .i64 (x.ev.time))), (.fsl ((x.ev.key).map qcp) false), (.v (.int .i64 (x.ev.lp))), (.v (.int .i64 (x.ev.kind))), (.v (.int .i64 (x.ev.proc))), (.v (.int .i64 (x.ev.arg))), (.fsl ((x.out).map Evt.r) false), (.fsl ((x.gone).map qfe) false), (.v (.int .i64 (x.n))), (.v (.bool (x.over)))]), (.v (.int .i64 (i))), (.agg [(.v (.int .i64 (op.code))), (.v (.int .i64 (op.a))), (.v (.int .i64 (op.b))), (.v (.int .i64 (op.c)))])] = some (.tup [(.agg [(.v (.int .i64 (((({ x with gone := if 0 < q.timer.length then x.gone ++ [q.timer] else x.gone } : Ex).create op.a ⟨0, [], x.ev.lp, 2, i, op.b⟩).setP i { q.inc with timer := x.kid }).r0))), (.v (.int .i64 (((({ x with gone := if 0 < q.timer.length then x.gone ++ [q.timer] else x.gone } : Ex).create op.a ⟨0, [], x.ev.lp, 2, i, op.b⟩).setP i { q.inc with timer := x.kid }).r1))), (.fsl ((((({ x with gone := if 0 < q.timer.length then x.gone ++ [q.timer] else x.gone } : Ex).create op.a ⟨0, [], x.ev.lp, 2, i, op.b⟩).setP i { q.inc with timer := x.kid }).procs).map Pr.r) false), (.v (.int .i64 (((({ x with gone := if 0 < q.timer.length then x.gone ++ [q.timer] else x.gone } : Ex).create op.a ⟨0, [], x.ev.lp, 2, i, op.b⟩).setP i { q.inc with timer := x.kid }).sum))), (.v (.int .i64 (((({ x with gone := if 0 < q.timer.length then x.gone ++ [q.timer] else x.gone } : Ex).create op.a ⟨0, [], x.ev.lp, 2, i, op.b⟩).setP i { q.inc with timer := x.kid }).ev.time))), (.fsl ((((({ x with gone := if 0 < q.timer.length then x.gone ++ [q.timer] else x.gone } : Ex).create op.a ⟨0, [], x.ev.lp, 2, i, op.b⟩).setP i { q.inc with timer := x.kid }).ev.key).map qcp) false), (.v (.int .i64 (((({ x with gone := if 0 < q.timer.length then x.gone ++ [q.timer] else x.gone } : Ex).create op.a ⟨0, [], x.ev.lp, 2, i, op.b⟩).setP i { q.inc with timer := x.kid }).ev.lp))), (.v (.int .i64 (((({ x with gone := if 0 < q.timer.length then x.gone ++ [q.timer] else x.gone } : Ex).create op.a ⟨0, [], x.ev.lp, 2, i, op.b⟩).setP i { q.inc with timer := x.kid }).ev.kind))), (.v (.int .i64 (((({ x with gone := if 0 < q.timer.length then x.gone ++ [q.timer] else x.gone } : Ex).create op.a ⟨0, [], x.ev.lp, 2, i, op.b⟩).setP i { q.inc with timer := x.kid }).ev.proc))), (.v (.int .i64 (((({ x with gone := if 0 < q.timer.length then x.gone ++ [q.timer] else x.gone } : Ex).create op.a ⟨0, [], x.ev.lp, 2, i, op.b⟩).setP i { q.inc with timer := x.kid }).ev.arg))), (.fsl ((((({ x with gone := if 0 < q.timer.length then x.gone ++ [q.timer] else x.gone } : Ex).create op.a ⟨0, [], x.ev.lp, 2, i, op.b⟩).setP i { q.inc with timer := x.kid }).out).map Evt.r) false), (.fsl ((((({ x with gone := if 0 < q.timer.length then x.gone ++ [q.timer] else x.gone } : Ex).create op.a ⟨0, [], x.ev.lp, 2, i, op.b⟩).setP i { q.inc with timer := x.kid }).gone).map qfe) false), (.v (.int .i64 (((({ x with gone := if 0 < q.timer.length then x.gone ++ [q.timer] else x.gone } : Ex).create op.a ⟨0, [], x.ev.lp, 2, i, op.b⟩).setP i { q.inc with timer := x.kid }).n))), (.v (.bool (((({ x with gone := if 0 < q.timer.length then x.gone ++ [q.timer] else x.gone } : Ex).create op.a ⟨0, [], x.ev.lp, 2, i, op.b⟩).setP i { q.inc with timer := x.kid }).over)))]), (.v (.bool (false)))]) := by
  have hl := (List.getElem?_eq_some_iff.1 hq).1
  have k1 : ¬ (3 : Int) = 1 := by decide
  have k2 : ¬ (3 : Int) = 2 := by decide
  have ha := qn7 x.gone q.timer false h.gone
  by_cases ht : 0 < q.timer.length
  · have ht' : (q.timer.length : Int) > 0 := by omega
    have hc := qi3 { x with gone := x.gone ++ [q.timer] } ⟨h.procs, h.out, by simp; omega, h.key⟩ op.a 0 x.ev.lp 2 i op.b []
    have hp := qeh (({ x with gone := x.gone ++ [q.timer] } : Ex).create op.a ⟨0, [], x.ev.lp, 2, i, op.b⟩) h.procs i hl { q.inc with timer := x.kid }
    rw [if_pos ht]
    simp only [List.map_nil, Pr.inc, Ex.kid, w64] at hc hp ⊢
    rw [qbk, qu qdq qdg]
    simp only [qdv, h1, k1, k2, ht', hq, hc, hp, ha, Pr.r, Int.natCast_nonneg, Int.toNat_natCast, List.getElem?_map, Option.map_some, qax, qar, qah, qb0, Nat.reduceLeDiff, Ev.qm, Ev.exec, Ev.qb, Ev.qe, Ev.qc, Ev.qa9, Ev.qaf, Ev.evs, Ev.Opnd.ev, Ev.Env.get, Ev.Env.set, Ev.look, Ev.qn, Ev.qi, Ev.qab, Ev.qff, Ev.AV.cells, Ev.AV.uc, Ev.qv, Ev.AV.plain, Ev.qaj, Ev.qak, Ev.qau, Ev.ql, Ev.qw, Ev.qae, Ev.kill, Ev.qad, Ev.qd, Ev.qa4, Ev.qbn, Ev.qbc, Ev.qy, Ev.qj, Ev.qk, Ev.qac, Ev.qal, List.length_map, ↓Ev.qq, ↓reduceIte, List.length_cons, List.length_nil, List.getElem?_cons_zero, List.getElem?_cons_succ, List.take_succ_cons, List.take_zero, List.take_nil, List.drop_succ_cons, List.drop_zero, List.drop_nil, List.cons_append, List.nil_append, List.append_nil, List.set_cons_zero, List.set_cons_succ, List.head?_cons, Nat.reduceAdd, Nat.reduceEqDiff, Nat.reduceLeDiff, reduceCtorEq, decide_true, decide_false, Bool.and_self, Bool.false_eq_true, and_self, ne_eq, not_false_eq_true, List.cons_ne_nil, Nat.zero_add, Nat.add_zero, Nat.le_refl, eq_self]
  · have ht' : ¬ (q.timer.length : Int) > 0 := by omega
    have hc := qi3 x h op.a 0 x.ev.lp 2 i op.b []
    have hp := qeh (x.create op.a ⟨0, [], x.ev.lp, 2, i, op.b⟩) h.procs i hl { q.inc with timer := x.kid }
    rw [if_neg ht]
    simp only [List.map_nil, Pr.inc, Ex.kid, w64] at hc hp ⊢
    rw [qbk, qu qdq qdg]
    simp only [qdv, h1, k1, k2, ht', hq, hc, hp, Pr.r, Int.natCast_nonneg, Int.toNat_natCast, List.getElem?_map, Option.map_some, qax, qar, qah, qb0, Nat.reduceLeDiff, Ev.qm, Ev.exec, Ev.qb, Ev.qe, Ev.qc, Ev.qa9, Ev.qaf, Ev.evs, Ev.Opnd.ev, Ev.Env.get, Ev.Env.set, Ev.look, Ev.qn, Ev.qi, Ev.qab, Ev.qff, Ev.AV.cells, Ev.AV.uc, Ev.qv, Ev.AV.plain, Ev.qaj, Ev.qak, Ev.qau, Ev.ql, Ev.qw, Ev.qae, Ev.kill, Ev.qad, Ev.qd, Ev.qa4, Ev.qbn, Ev.qbc, Ev.qy, Ev.qj, Ev.qk, Ev.qac, Ev.qal, List.length_map, ↓Ev.qq, ↓reduceIte, List.length_cons, List.length_nil, List.getElem?_cons_zero, List.getElem?_cons_succ, List.take_succ_cons, List.take_zero, List.take_nil, List.drop_succ_cons, List.drop_zero, List.drop_nil, List.cons_append, List.nil_append, List.append_nil, List.set_cons_zero, List.set_cons_succ, List.head?_cons, Nat.reduceAdd, Nat.reduceEqDiff, Nat.reduceLeDiff, reduceCtorEq, decide_true, decide_false, Bool.and_self, Bool.false_eq_true, and_self, ne_eq, not_false_eq_true, List.cons_ne_nil, Nat.zero_add, Nat.add_zero, Nat.le_refl, eq_self]
theorem q6w (h : x.Small) (hg : x.gone.length < 1000) (hq : x.procs[i]? = some q) (h1 : op.code = 4) :
    qbk (evL T) qdu [(.agg [(.v (.int .i64 (x.r0))), (.v (.int .i64 (x.r1))), (.fsl ((x.procs).map Pr.r) false), (.v (.int .i64 (x.sum))), (.v (.int .i64 (x.ev.time))), (.fsl ((x.ev.key).map qcp) false), (.v (.int .i64 (x.ev.lp))), (.v (.int .i64 (x.ev.kind))), (.v (.int .i64 (x.ev.proc))), (.v (.int .i64 (x.ev.arg))), (.fsl ((x.out).map Evt.r) false), (.fsl ((x.gone).map qfe) false), (.v (.int .i64 (x.n))), (.v (.bool (x.over)))]), (.v (.int .i64 (i))), (.agg [(.v (.int .i64 (op.code))), (.v (.int .i64 (op.a))), (.v (.int .i64 (op.b))), (.v (.int .i64 (op.c)))])] = some (.tup [(.agg [(.v (.int .i64 ((if 0 < q.timer.length then ({ x with gone := x.gone ++ [q.timer] } : Ex).setP i { q.inc with timer := [] } else x.setP i q.inc).r0))), (.v (.int .i64 ((if 0 < q.timer.length then ({ x with gone := x.gone ++ [q.timer] } : Ex).setP i { q.inc with timer := [] } else x.setP i q.inc).r1))), (.fsl (((if 0 < q.timer.length then ({ x with gone := x.gone ++ [q.timer] } : Ex).setP i { q.inc with timer := [] } else x.setP i q.inc).procs).map Pr.r) false), (.v (.int .i64 ((if 0 < q.timer.length then ({ x with gone := x.gone ++ [q.timer] } : Ex).setP i { q.inc with timer := [] } else x.setP i q.inc).sum))), (.v (.int .i64 ((if 0 < q.timer.length then ({ x with gone := x.gone ++ [q.timer] } : Ex).setP i { q.inc with timer := [] } else x.setP i q.inc).ev.time))), (.fsl (((if 0 < q.timer.length then ({ x with gone := x.gone ++ [q.timer] } : Ex).setP i { q.inc with timer := [] } else x.setP i q.inc).ev.key).map qcp) false), (.v (.int .i64 ((if 0 < q.timer.length then ({ x with gone := x.gone ++ [q.timer] } : Ex).setP i { q.inc with timer := [] } else x.setP i q.inc).ev.lp))), (.v (.int .i64 ((if 0 < q.timer.length then ({ x with gone := x.gone ++ [q.timer] } : Ex).setP i { q.inc with timer := [] } else x.setP i q.inc).ev.kind))), (.v (.int .i64 ((if 0 < q.timer.length then ({ x with gone := x.gone ++ [q.timer] } : Ex).setP i { q.inc with timer := [] } else x.setP i q.inc).ev.proc))), (.v (.int .i64 ((if 0 < q.timer.length then ({ x with gone := x.gone ++ [q.timer] } : Ex).setP i { q.inc with timer := [] } else x.setP i q.inc).ev.arg))), (.fsl (((if 0 < q.timer.length then ({ x with gone := x.gone ++ [q.timer] } : Ex).setP i { q.inc with timer := [] } else x.setP i q.inc).out).map Evt.r) false), (.fsl (((if 0 < q.timer.length then ({ x with gone := x.gone ++ [q.timer] } : Ex).setP i { q.inc with timer := [] } else x.setP i q.inc).gone).map qfe) false), (.v (.int .i64 ((if 0 < q.timer.length then ({ x with gone := x.gone ++ [q.timer] } : Ex).setP i { q.inc with timer := [] } else x.setP i q.inc).n))), (.v (.bool ((if 0 < q.timer.length then ({ x with gone := x.gone ++ [q.timer] } : Ex).setP i { q.inc with timer := [] } else x.setP i q.inc).over)))]), (.v (.bool (false)))]) := by
  have hl := (List.getElem?_eq_some_iff.1 hq).1
  have k1 : ¬ (4 : Int) = 1 := by decide
  have k2 : ¬ (4 : Int) = 2 := by decide
  have k3 : ¬ (4 : Int) = 3 := by decide
  have ha := qn7 x.gone q.timer false h.gone
  by_cases ht : 0 < q.timer.length
  · have ht' : (q.timer.length : Int) > 0 := by omega
    have hp := qeh { x with gone := x.gone ++ [q.timer] } h.procs i hl { q.inc with timer := [] }
    rw [if_pos ht]
    simp only [List.map_nil, Pr.inc, w64] at hp ⊢
    rw [qbk, qu qdq qdg]
    simp only [qdv, h1, k1, k2, k3, ht', hq, hp, ha, Pr.r, Int.natCast_nonneg, Int.toNat_natCast, List.getElem?_map, Option.map_some, qax, qar, qah, qb0, Nat.reduceLeDiff, Ev.qm, Ev.exec, Ev.qb, Ev.qe, Ev.qc, Ev.qa9, Ev.qaf, Ev.evs, Ev.Opnd.ev, Ev.Env.get, Ev.Env.set, Ev.look, Ev.qn, Ev.qi, Ev.qab, Ev.AV.cells, Ev.AV.uc, Ev.qv, Ev.AV.plain, Ev.qaj, Ev.qak, Ev.qau, Ev.ql, Ev.qw, Ev.qae, Ev.kill, Ev.qad, Ev.qd, Ev.qa4, Ev.qbn, Ev.qbc, Ev.qy, Ev.qj, Ev.qk, Ev.qac, Ev.qal, List.length_map, ↓Ev.qq, ↓reduceIte, List.length_cons, List.length_nil, List.getElem?_cons_zero, List.getElem?_cons_succ, List.take_succ_cons, List.take_zero, List.take_nil, List.drop_succ_cons, List.drop_zero, List.drop_nil, List.cons_append, List.nil_append, List.append_nil, List.set_cons_zero, List.set_cons_succ, List.head?_cons, Nat.reduceAdd, Nat.reduceEqDiff, Nat.reduceLeDiff, reduceCtorEq, decide_true, decide_false, Bool.and_self, Bool.false_eq_true, and_self, ne_eq, not_false_eq_true, List.cons_ne_nil, Nat.zero_add, Nat.add_zero, Nat.le_refl, eq_self]
  · have ht' : ¬ (q.timer.length : Int) > 0 := by omega
    have hp := qeh x h.procs i hl q.inc
    rw [if_neg ht]
    simp only [Pr.inc, w64] at hp ⊢
    rw [qbk, qu qdq qdg]
    simp only [qdv, h1, k1, k2, k3, ht', hq, hp, Pr.r, Int.natCast_nonneg, Int.toNat_natCast, List.getElem?_map, Option.map_some, qax, qar, qah, qb0, Nat.reduceLeDiff, Ev.qm, Ev.exec, Ev.qb, Ev.qe, Ev.qc, Ev.qa9, Ev.qaf, Ev.evs, Ev.Opnd.ev, Ev.Env.get, Ev.Env.set, Ev.look, Ev.qn, Ev.qi, Ev.qab, Ev.AV.cells, Ev.AV.uc, Ev.qv, Ev.AV.plain, Ev.qaj, Ev.qak, Ev.qau, Ev.ql, Ev.qw, Ev.qae, Ev.kill, Ev.qad, Ev.qd, Ev.qa4, Ev.qbn, Ev.qbc, Ev.qy, Ev.qj, Ev.qk, Ev.qal, List.length_map, ↓Ev.qq, ↓reduceIte, List.length_cons, List.length_nil, List.getElem?_cons_zero, List.getElem?_cons_succ, List.take_succ_cons, List.take_zero, List.take_nil, List.drop_succ_cons, List.drop_zero, List.drop_nil, List.cons_append, List.nil_append, List.append_nil, List.set_cons_zero, List.set_cons_succ, List.head?_cons, Nat.reduceAdd, Nat.reduceEqDiff, Nat.reduceLeDiff, reduceCtorEq, decide_true, decide_false, Bool.and_self, Bool.false_eq_true, and_self, ne_eq, not_false_eq_true, List.cons_ne_nil, Nat.zero_add, Nat.add_zero, Nat.le_refl, eq_self]
theorem q4m (h : x.Small) (hq : x.procs[i]? = some q) (h1 : op.code = 5) :
    qbk (evL T) qdu [(.agg [(.v (.int .i64 (x.r0))), (.v (.int .i64 (x.r1))), (.fsl ((x.procs).map Pr.r) false), (.v (.int .i64 (x.sum))), (.v (.int .i64 (x.ev.time))), (.fsl ((x.ev.key).map qcp) false), (.v (.int .i64 (x.ev.lp))), (.v (.int .i64 (x.ev.kind))), (.v (.int .i64 (x.ev.proc))), (.v (.int .i64 (x.ev.arg))), (.fsl ((x.out).map Evt.r) false), (.fsl ((x.gone).map qfe) false), (.v (.int .i64 (x.n))), (.v (.bool (x.over)))]), (.v (.int .i64 (i))), (.agg [(.v (.int .i64 (op.code))), (.v (.int .i64 (op.a))), (.v (.int .i64 (op.b))), (.v (.int .i64 (op.c)))])] = some (.tup [(.agg [(.v (.int .i64 (((x.setP i q.inc).spawnE op).r0))), (.v (.int .i64 (((x.setP i q.inc).spawnE op).r1))), (.fsl ((((x.setP i q.inc).spawnE op).procs).map Pr.r) false), (.v (.int .i64 (((x.setP i q.inc).spawnE op).sum))), (.v (.int .i64 (((x.setP i q.inc).spawnE op).ev.time))), (.fsl ((((x.setP i q.inc).spawnE op).ev.key).map qcp) false), (.v (.int .i64 (((x.setP i q.inc).spawnE op).ev.lp))), (.v (.int .i64 (((x.setP i q.inc).spawnE op).ev.kind))), (.v (.int .i64 (((x.setP i q.inc).spawnE op).ev.proc))), (.v (.int .i64 (((x.setP i q.inc).spawnE op).ev.arg))), (.fsl ((((x.setP i q.inc).spawnE op).out).map Evt.r) false), (.fsl ((((x.setP i q.inc).spawnE op).gone).map qfe) false), (.v (.int .i64 (((x.setP i q.inc).spawnE op).n))), (.v (.bool (((x.setP i q.inc).spawnE op).over)))]), (.v (.bool (false)))]) := by
  have hl := (List.getElem?_eq_some_iff.1 hq).1
  have k1 : ¬ (5 : Int) = 1 := by decide
  have k2 : ¬ (5 : Int) = 2 := by decide
  have k3 : ¬ (5 : Int) = 3 := by decide
  have k4 : ¬ (5 : Int) = 4 := by decide
  have hp := qeh x h.procs i hl q.inc
  have hls : (x.procs.set i q.inc).length = x.procs.length := by simp
  unfold Ex.spawnE
  by_cases hs : x.procs.length < 8
  · have hs' : ¬ (x.procs.length : Int) ≥ 8 := by omega
    have h2 : x.procs.length * 48 ≤ 140737488355328 := by omega
    have h3 : (x.procs.length + 1) * 48 ≤ 140737488355328 := by omega
    rw [if_pos (by simp only [Ex.setP, hls]; exact hs)]
    have hc := qi3 { x with procs := x.procs.set i q.inc ++ [⟨op.a, 0, true, []⟩] } ⟨by simp; omega, h.out, h.gone, h.key⟩ op.b 0 x.ev.lp 1 x.procs.length 0 []
    have htk : ∀ e : List AV, List.take (x.procs.length + 1) ((x.procs.set i q.inc).map Pr.r ++ [e]) = (x.procs.set i q.inc).map Pr.r ++ [e] := fun e => List.take_of_length_le (by simp)
    have htl : List.take x.procs.length ((x.procs.set i q.inc).map Pr.r) = (x.procs.set i q.inc).map Pr.r := List.take_of_length_le (by simp)
    simp only [Ex.setP, Ex.ownE, hls] at hp ⊢
    generalize x.procs.set i q.inc = l at *
    simp only [List.map_nil, List.map_append, List.map_cons, Pr.inc, Pr.r, w64] at hc hp ⊢
    rw [qbk, qu qdq qdg]
    simp only [qdv, h1, k1, k2, k3, k4, h2, h3, hs', hls, hq, hc, hp, htl, htk, q1e, Pr.r, qn4, Int.natCast_nonneg, Int.toNat_natCast, List.getElem?_map, Option.map_some, qax, qar, qah, qb0, Nat.reduceLT, Nat.reduceLeDiff, Ev.qm, Ev.exec, Ev.qb, Ev.qe, Ev.qc, Ev.qa9, Ev.qaf, Ev.qvy, Ev.evs, Ev.Opnd.ev, Ev.Env.get, Ev.Env.set, Ev.look, Ev.qn, Ev.qi, Ev.qd5, Ev.qab, Ev.qff, Ev.qjo, Ev.AV.cells, Ev.AV.uc, Ev.qv, Ev.AV.plain, Ev.qaj, Ev.qak, Ev.qbz, Ev.ql, Ev.qw, Ev.qae, Ev.kill, Ev.qad, Ev.qd, Ev.qa4, Ev.qbn, Ev.qbc, Ev.qy, Ev.qj, Ev.qk, Ev.qac, Ev.qaq, Ev.qd8, Ev.qed, Ev.qal, List.replicate_one, List.replicate_zero, List.length_map, ↓Ev.qq, ↓reduceIte, List.length_cons, List.length_nil, List.length_append, List.getElem?_cons_zero, List.getElem?_cons_succ, List.take_succ_cons, List.take_zero, List.take_nil, List.drop_succ_cons, List.drop_zero, List.drop_nil, List.cons_append, List.nil_append, List.append_nil, List.set_cons_zero, List.set_cons_succ, List.head?_cons, Nat.reduceAdd, Nat.reduceEqDiff, Nat.reduceMul, Nat.reduceLT, Nat.reduceLeDiff, Nat.reducePow, reduceCtorEq, decide_true, decide_false, Bool.and_self, Bool.false_eq_true, and_self, ne_eq, not_false_eq_true, not_true_eq_false, List.cons_ne_nil, Nat.zero_add, Nat.add_zero, Nat.lt_add_one, Nat.le_refl, eq_self, and_false]
  · have hs' : (x.procs.length : Int) ≥ 8 := by omega
    rw [if_neg (by simp only [Ex.setP, hls]; exact hs)]
    simp only [Ex.setP] at hp ⊢
    generalize x.procs.set i q.inc = l at *
    simp only [Pr.inc, w64] at hp ⊢
    rw [qbk, qu qdq qdg]
    simp only [qdv, h1, k1, k2, k3, k4, hs', hls, hq, hp, Pr.r, Int.natCast_nonneg, Int.toNat_natCast, List.getElem?_map, Option.map_some, qax, qar, qah, qb0, Nat.reduceLeDiff, Ev.qm, Ev.exec, Ev.qb, Ev.qe, Ev.qc, Ev.qa9, Ev.qaf, Ev.evs, Ev.Opnd.ev, Ev.Env.get, Ev.Env.set, Ev.look, Ev.qn, Ev.qi, Ev.qab, Ev.AV.cells, Ev.AV.uc, Ev.qv, Ev.AV.plain, Ev.qaj, Ev.qak, Ev.qbz, Ev.ql, Ev.qw, Ev.qae, Ev.kill, Ev.qad, Ev.qd, Ev.qa4, Ev.qbn, Ev.qbc, Ev.qy, Ev.qj, Ev.qk, Ev.qal, List.length_map, ↓Ev.qq, ↓reduceIte, List.length_cons, List.length_nil, List.getElem?_cons_zero, List.getElem?_cons_succ, List.take_succ_cons, List.take_zero, List.take_nil, List.drop_succ_cons, List.drop_zero, List.drop_nil, List.cons_append, List.nil_append, List.append_nil, List.set_cons_zero, List.set_cons_succ, List.head?_cons, Nat.reduceAdd, Nat.reduceEqDiff, Nat.reduceLeDiff, reduceCtorEq, decide_true, decide_false, Bool.and_self, Bool.false_eq_true, and_self, ne_eq, not_false_eq_true, List.cons_ne_nil, Nat.zero_add, Nat.add_zero, Nat.le_refl, eq_self]
theorem q8i (h : x.Small) (hq : x.procs[i]? = some q) (h1 : op.code = 6) (h0 : op.a = 0 ∨ op.a = 1) :
    qbk (evL T) qdu [(.agg [(.v (.int .i64 (x.r0))), (.v (.int .i64 (x.r1))), (.fsl ((x.procs).map Pr.r) false), (.v (.int .i64 (x.sum))), (.v (.int .i64 (x.ev.time))), (.fsl ((x.ev.key).map qcp) false), (.v (.int .i64 (x.ev.lp))), (.v (.int .i64 (x.ev.kind))), (.v (.int .i64 (x.ev.proc))), (.v (.int .i64 (x.ev.arg))), (.fsl ((x.out).map Evt.r) false), (.fsl ((x.gone).map qfe) false), (.v (.int .i64 (x.n))), (.v (.bool (x.over)))]), (.v (.int .i64 (i))), (.agg [(.v (.int .i64 (op.code))), (.v (.int .i64 (op.a))), (.v (.int .i64 (op.b))), (.v (.int .i64 (op.c)))])] = some (.tup [(.agg [(.v (.int .i64 (((x.setReg op.a (w64 (x.reg op.a + op.b))).setP i q.inc).r0))), (.v (.int .i64 (((x.setReg op.a (w64 (x.reg op.a + op.b))).setP i q.inc).r1))), (.fsl ((((x.setReg op.a (w64 (x.reg op.a + op.b))).setP i q.inc).procs).map Pr.r) false), (.v (.int .i64 (((x.setReg op.a (w64 (x.reg op.a + op.b))).setP i q.inc).sum))), (.v (.int .i64 (((x.setReg op.a (w64 (x.reg op.a + op.b))).setP i q.inc).ev.time))), (.fsl ((((x.setReg op.a (w64 (x.reg op.a + op.b))).setP i q.inc).ev.key).map qcp) false), (.v (.int .i64 (((x.setReg op.a (w64 (x.reg op.a + op.b))).setP i q.inc).ev.lp))), (.v (.int .i64 (((x.setReg op.a (w64 (x.reg op.a + op.b))).setP i q.inc).ev.kind))), (.v (.int .i64 (((x.setReg op.a (w64 (x.reg op.a + op.b))).setP i q.inc).ev.proc))), (.v (.int .i64 (((x.setReg op.a (w64 (x.reg op.a + op.b))).setP i q.inc).ev.arg))), (.fsl ((((x.setReg op.a (w64 (x.reg op.a + op.b))).setP i q.inc).out).map Evt.r) false), (.fsl ((((x.setReg op.a (w64 (x.reg op.a + op.b))).setP i q.inc).gone).map qfe) false), (.v (.int .i64 (((x.setReg op.a (w64 (x.reg op.a + op.b))).setP i q.inc).n))), (.v (.bool (((x.setReg op.a (w64 (x.reg op.a + op.b))).setP i q.inc).over)))]), (.v (.bool (false)))]) := by
  have hl := (List.getElem?_eq_some_iff.1 hq).1
  have k1 : ¬ (6 : Int) = 1 := by decide
  have k2 : ¬ (6 : Int) = 2 := by decide
  have k3 : ¬ (6 : Int) = 3 := by decide
  have k4 : ¬ (6 : Int) = 4 := by decide
  have k5 : ¬ (6 : Int) = 5 := by decide
  have k6 : ¬ (1 : Int) = 0 := by decide
  rcases h0 with h0 | h0
  · have hp := qeh { x with r0 := w64 (x.r0 + op.b) } h.procs i hl q.inc
    simp only [Ex.setReg, Ex.reg, h0, if_true]
    simp only [Pr.inc, w64] at hp ⊢
    rw [qbk, qu qdq qdg]
    simp only [qdv, h1, k1, k2, k3, k4, k5, hq, hp, Pr.r, Int.natCast_nonneg, Int.toNat_natCast, List.getElem?_map, Option.map_some, qax, qar, qah, qb0, Nat.reduceLT, Nat.reduceLeDiff, Ev.qm, Ev.exec, Ev.qb, Ev.qe, Ev.qc, Ev.qa9, Ev.qaf, Ev.evs, Ev.Opnd.ev, Ev.Env.get, Ev.Env.set, Ev.look, Ev.qn, Ev.qi, Ev.qab, Ev.AV.cells, Ev.AV.uc, Ev.qv, Ev.AV.plain, Ev.qaj, Ev.qak, Ev.ql, Ev.qw, Ev.qae, Ev.kill, Ev.qad, Ev.qd, Ev.qa4, Ev.qbn, Ev.qbc, Ev.qy, Ev.qj, Ev.qk, Ev.qal, ↓Ev.qq, ↓reduceIte, List.length_cons, List.length_nil, List.getElem?_cons_zero, List.getElem?_cons_succ, List.take_succ_cons, List.take_zero, List.take_nil, List.drop_succ_cons, List.drop_zero, List.drop_nil, List.cons_append, List.nil_append, List.append_nil, List.set_cons_zero, List.set_cons_succ, List.head?_cons, Nat.reduceAdd, Nat.reduceEqDiff, Nat.reduceMul, Nat.reduceLT, Nat.reduceLeDiff, Int.reduceLE, Int.reduceToNat, reduceCtorEq, decide_true, decide_false, Bool.and_self, Bool.false_eq_true, and_self, ne_eq, not_false_eq_true, List.cons_ne_nil, Nat.zero_add, Nat.add_zero, Nat.le_refl, eq_self]
  · have hp := qeh { x with r1 := w64 (x.r1 + op.b) } h.procs i hl q.inc
    simp only [Ex.setReg, Ex.reg, h0, k6, if_false]
    simp only [Pr.inc, w64] at hp ⊢
    rw [qbk, qu qdq qdg]
    simp only [qdv, h1, k1, k2, k3, k4, k5, hq, hp, Pr.r, Int.natCast_nonneg, Int.toNat_natCast, List.getElem?_map, Option.map_some, qax, qar, qah, qb0, Nat.reduceLeDiff, Ev.qm, Ev.exec, Ev.qb, Ev.qe, Ev.qc, Ev.qa9, Ev.qaf, Ev.evs, Ev.Opnd.ev, Ev.Env.get, Ev.Env.set, Ev.look, Ev.qn, Ev.qi, Ev.qab, Ev.AV.cells, Ev.AV.uc, Ev.qv, Ev.AV.plain, Ev.qaj, Ev.qak, Ev.ql, Ev.qw, Ev.qae, Ev.kill, Ev.qad, Ev.qd, Ev.qa4, Ev.qbn, Ev.qbc, Ev.qy, Ev.qj, Ev.qk, Ev.qal, ↓Ev.qq, ↓reduceIte, List.length_cons, List.length_nil, List.getElem?_cons_zero, List.getElem?_cons_succ, List.take_succ_cons, List.take_zero, List.take_nil, List.drop_succ_cons, List.drop_zero, List.drop_nil, List.cons_append, List.nil_append, List.append_nil, List.set_cons_zero, List.set_cons_succ, List.head?_cons, Nat.reduceAdd, Nat.reduceEqDiff, Nat.reduceMul, Nat.reduceLeDiff, Int.reduceLE, Int.reduceToNat, reduceCtorEq, decide_true, decide_false, Bool.and_self, Bool.false_eq_true, and_self, ne_eq, not_false_eq_true, List.cons_ne_nil, Nat.zero_add, Nat.add_zero, Nat.lt_add_one, Nat.le_refl, eq_self]
theorem q6i (h : x.Small) (hq : x.procs[i]? = some q) (h1 : op.code = 7) (h0 : op.a = 0 ∨ op.a = 1) :
    qbk (evL T) qdu [(.agg [(.v (.int .i64 (x.r0))), (.v (.int .i64 (x.r1))), (.fsl ((x.procs).map Pr.r) false), (.v (.int .i64 (x.sum))), (.v (.int .i64 (x.ev.time))), (.fsl ((x.ev.key).map qcp) false), (.v (.int .i64 (x.ev.lp))), (.v (.int .i64 (x.ev.kind))), (.v (.int .i64 (x.ev.proc))), (.v (.int .i64 (x.ev.arg))), (.fsl ((x.out).map Evt.r) false), (.fsl ((x.gone).map qfe) false), (.v (.int .i64 (x.n))), (.v (.bool (x.over)))]), (.v (.int .i64 (i))), (.agg [(.v (.int .i64 (op.code))), (.v (.int .i64 (op.a))), (.v (.int .i64 (op.b))), (.v (.int .i64 (op.c)))])] = some (.tup [(.agg [(.v (.int .i64 ((x.setP i (if x.reg op.a < op.b then { q.inc with pc := op.c } else q.inc)).r0))), (.v (.int .i64 ((x.setP i (if x.reg op.a < op.b then { q.inc with pc := op.c } else q.inc)).r1))), (.fsl (((x.setP i (if x.reg op.a < op.b then { q.inc with pc := op.c } else q.inc)).procs).map Pr.r) false), (.v (.int .i64 ((x.setP i (if x.reg op.a < op.b then { q.inc with pc := op.c } else q.inc)).sum))), (.v (.int .i64 ((x.setP i (if x.reg op.a < op.b then { q.inc with pc := op.c } else q.inc)).ev.time))), (.fsl (((x.setP i (if x.reg op.a < op.b then { q.inc with pc := op.c } else q.inc)).ev.key).map qcp) false), (.v (.int .i64 ((x.setP i (if x.reg op.a < op.b then { q.inc with pc := op.c } else q.inc)).ev.lp))), (.v (.int .i64 ((x.setP i (if x.reg op.a < op.b then { q.inc with pc := op.c } else q.inc)).ev.kind))), (.v (.int .i64 ((x.setP i (if x.reg op.a < op.b then { q.inc with pc := op.c } else q.inc)).ev.proc))), (.v (.int .i64 ((x.setP i (if x.reg op.a < op.b then { q.inc with pc := op.c } else q.inc)).ev.arg))), (.fsl (((x.setP i (if x.reg op.a < op.b then { q.inc with pc := op.c } else q.inc)).out).map Evt.r) false), (.fsl (((x.setP i (if x.reg op.a < op.b then { q.inc with pc := op.c } else q.inc)).gone).map qfe) false), (.v (.int .i64 ((x.setP i (if x.reg op.a < op.b then { q.inc with pc := op.c } else q.inc)).n))), (.v (.bool ((x.setP i (if x.reg op.a < op.b then { q.inc with pc := op.c } else q.inc)).over)))]), (.v (.bool (false)))]) := by
  have hl := (List.getElem?_eq_some_iff.1 hq).1
  have k1 : ¬ (7 : Int) = 1 := by decide
  have k2 : ¬ (7 : Int) = 2 := by decide
  have k3 : ¬ (7 : Int) = 3 := by decide
  have k4 : ¬ (7 : Int) = 4 := by decide
  have k5 : ¬ (7 : Int) = 5 := by decide
  have k5' : ¬ (7 : Int) = 6 := by decide
  have k6 : ¬ (1 : Int) = 0 := by decide
  by_cases hr : x.reg op.a < op.b
  · have hp := qeh x h.procs i hl { q.inc with pc := op.c }
    simp only [Pr.inc, w64] at hp
    rw [if_pos hr]
    rw [qbk, qu qdq qdg]
    rcases h0 with h0 | h0 <;> simp only [Ex.reg, h0, k6, if_true, if_false] at hr <;>
    simp only [qdv, h0, h1, k1, k2, k3, k4, k5, k5', hr, hq, hp, Pr.inc, w64, Pr.r, Int.natCast_nonneg, Int.toNat_natCast, List.getElem?_map, Option.map_some, qax, qar, qah, qb0, Nat.reduceLT, Nat.reduceLeDiff, Ev.qm, Ev.exec, Ev.qb, Ev.qe, Ev.qc, Ev.qa9, Ev.qaf, Ev.evs, Ev.Opnd.ev, Ev.Env.get, Ev.Env.set, Ev.look, Ev.qn, Ev.qi, Ev.qab, Ev.AV.cells, Ev.AV.uc, Ev.qv, Ev.AV.plain, Ev.qaj, Ev.qak, Ev.qo, Ev.ql, Ev.qw, Ev.qae, Ev.kill, Ev.qad, Ev.qd, Ev.qa4, Ev.qbn, Ev.qbc, Ev.qy, Ev.qj, Ev.qk, Ev.qal, ↓Ev.qq, ↓reduceIte, List.length_cons, List.length_nil, List.getElem?_cons_zero, List.getElem?_cons_succ, List.take_succ_cons, List.take_zero, List.take_nil, List.drop_succ_cons, List.drop_zero, List.drop_nil, List.cons_append, List.nil_append, List.append_nil, List.set_cons_zero, List.set_cons_succ, List.head?_cons, Nat.reduceAdd, Nat.reduceEqDiff, Nat.reduceMul, Nat.reduceLT, Nat.reduceLeDiff, Int.reduceLE, Int.reduceToNat, reduceCtorEq, decide_true, decide_false, Bool.and_self, Bool.false_eq_true, and_self, ne_eq, not_false_eq_true, List.cons_ne_nil, Nat.zero_add, Nat.add_zero, Nat.lt_add_one, Nat.le_refl, eq_self]
  · have hp := qeh x h.procs i hl q.inc
    simp only [Pr.inc, w64] at hp
    rw [if_neg hr]
    rw [qbk, qu qdq qdg]
    rcases h0 with h0 | h0 <;> simp only [Ex.reg, h0, k6, if_true, if_false] at hr <;>
    simp only [qdv, h0, h1, k1, k2, k3, k4, k5, k5', hr, hq, hp, Pr.inc, w64, Pr.r, Int.natCast_nonneg, Int.toNat_natCast, List.getElem?_map, Option.map_some, qax, qar, qah, qb0, Nat.reduceLT, Nat.reduceLeDiff, Ev.qm, Ev.exec, Ev.qb, Ev.qe, Ev.qc, Ev.qa9, Ev.qaf, Ev.evs, Ev.Opnd.ev, Ev.Env.get, Ev.Env.set, Ev.look, Ev.qn, Ev.qi, Ev.qab, Ev.AV.cells, Ev.AV.uc, Ev.qv, Ev.AV.plain, Ev.qaj, Ev.qak, Ev.qo, Ev.ql, Ev.qw, Ev.qae, Ev.kill, Ev.qad, Ev.qd, Ev.qa4, Ev.qbn, Ev.qbc, Ev.qy, Ev.qj, Ev.qk, Ev.qal, ↓Ev.qq, ↓reduceIte, List.length_cons, List.length_nil, List.getElem?_cons_zero, List.getElem?_cons_succ, List.take_succ_cons, List.take_zero, List.take_nil, List.drop_succ_cons, List.drop_zero, List.drop_nil, List.cons_append, List.nil_append, List.append_nil, List.set_cons_zero, List.set_cons_succ, List.head?_cons, Nat.reduceAdd, Nat.reduceEqDiff, Nat.reduceMul, Nat.reduceLT, Nat.reduceLeDiff, Int.reduceLE, Int.reduceToNat, reduceCtorEq, decide_true, decide_false, Bool.and_self, Bool.false_eq_true, and_self, ne_eq, not_false_eq_true, List.cons_ne_nil, Nat.zero_add, Nat.add_zero, Nat.lt_add_one, Nat.le_refl, eq_self]
theorem q72 (h : x.Small) (hq : x.procs[i]? = some q) (h1 : op.code = 8) :
    qbk (evL T) qdu [(.agg [(.v (.int .i64 (x.r0))), (.v (.int .i64 (x.r1))), (.fsl ((x.procs).map Pr.r) false), (.v (.int .i64 (x.sum))), (.v (.int .i64 (x.ev.time))), (.fsl ((x.ev.key).map qcp) false), (.v (.int .i64 (x.ev.lp))), (.v (.int .i64 (x.ev.kind))), (.v (.int .i64 (x.ev.proc))), (.v (.int .i64 (x.ev.arg))), (.fsl ((x.out).map Evt.r) false), (.fsl ((x.gone).map qfe) false), (.v (.int .i64 (x.n))), (.v (.bool (x.over)))]), (.v (.int .i64 (i))), (.agg [(.v (.int .i64 (op.code))), (.v (.int .i64 (op.a))), (.v (.int .i64 (op.b))), (.v (.int .i64 (op.c)))])] = some (.tup [(.agg [(.v (.int .i64 ((x.setP i { q.inc with alive := false }).r0))), (.v (.int .i64 ((x.setP i { q.inc with alive := false }).r1))), (.fsl (((x.setP i { q.inc with alive := false }).procs).map Pr.r) false), (.v (.int .i64 ((x.setP i { q.inc with alive := false }).sum))), (.v (.int .i64 ((x.setP i { q.inc with alive := false }).ev.time))), (.fsl (((x.setP i { q.inc with alive := false }).ev.key).map qcp) false), (.v (.int .i64 ((x.setP i { q.inc with alive := false }).ev.lp))), (.v (.int .i64 ((x.setP i { q.inc with alive := false }).ev.kind))), (.v (.int .i64 ((x.setP i { q.inc with alive := false }).ev.proc))), (.v (.int .i64 ((x.setP i { q.inc with alive := false }).ev.arg))), (.fsl (((x.setP i { q.inc with alive := false }).out).map Evt.r) false), (.fsl (((x.setP i { q.inc with alive := false }).gone).map qfe) false), (.v (.int .i64 ((x.setP i { q.inc with alive := false }).n))), (.v (.bool ((x.setP i { q.inc with alive := false }).over)))]), (.v (.bool (true)))]) := by
  have hl := (List.getElem?_eq_some_iff.1 hq).1
  have k1 : ¬ (8 : Int) = 1 := by decide
  have k2 : ¬ (8 : Int) = 2 := by decide
  have k3 : ¬ (8 : Int) = 3 := by decide
  have k4 : ¬ (8 : Int) = 4 := by decide
  have k5 : ¬ (8 : Int) = 5 := by decide
  have k6 : ¬ (8 : Int) = 6 := by decide
  have k7 : ¬ (8 : Int) = 7 := by decide
  have hp := qeh x h.procs i hl { q.inc with alive := false }
  simp only [Pr.inc, w64] at hp ⊢
  rw [qbk, qu qdq qdg]
  simp only [qdv, h1, k1, k2, k3, k4, k5, k6, k7, hq, hp, Pr.r, Int.natCast_nonneg, Int.toNat_natCast, List.getElem?_map, Option.map_some, qax, qar, qah, qb0, Nat.reduceLeDiff, Ev.qm, Ev.exec, Ev.qb, Ev.qe, Ev.qc, Ev.qa9, Ev.qaf, Ev.evs, Ev.Opnd.ev, Ev.Env.get, Ev.Env.set, Ev.look, Ev.qn, Ev.qi, Ev.qab, Ev.AV.cells, Ev.AV.uc, Ev.qv, Ev.AV.plain, Ev.qaj, Ev.qak, Ev.ql, Ev.qw, Ev.qae, Ev.kill, Ev.qad, Ev.qd, Ev.qa4, Ev.qbn, Ev.qbc, Ev.qy, Ev.qj, Ev.qk, Ev.qal, ↓Ev.qq, ↓reduceIte, List.length_cons, List.length_nil, List.getElem?_cons_zero, List.getElem?_cons_succ, List.take_succ_cons, List.take_zero, List.take_nil, List.drop_succ_cons, List.drop_zero, List.drop_nil, List.cons_append, List.nil_append, List.append_nil, List.set_cons_zero, List.set_cons_succ, List.head?_cons, Nat.reduceAdd, Nat.reduceEqDiff, Nat.reduceLeDiff, reduceCtorEq, decide_false, Bool.and_self, Bool.false_eq_true, and_self, ne_eq, not_false_eq_true, List.cons_ne_nil, Nat.zero_add, Nat.add_zero, Nat.le_refl, eq_self]
end
set_option maxRecDepth 10000
def stepR (x : Ex) (i : Nat) (q : Pr) (op : OpI) : Ex × Bool :=
  if (qdp (x.setP i q.inc) i q.inc op).2 = 1 then ((qdp (x.setP i q.inc) i q.inc op).1, true)
  else if (qdp (x.setP i q.inc) i q.inc op).2 = 2 then (qlg (qdp (x.setP i q.inc) i q.inc op).1 i, true)
  else ((qdp (x.setP i q.inc) i q.inc op).1, false)
theorem rstep_ev (x : Ex) (i : Nat) (op : OpI) (q : Pr) (h : x.Small) (hg : x.gone.length < 1000) (hi : x.ev.proc = i) (hq : x.procs[i]? = some q) (ho : OpOk' op) :
    qbk (evL T) qdu [(.agg [(.v (.int .i64 (x.r0))), (.v (.int .i64 (x.r1))), (.fsl ((x.procs).map Pr.r) false), (.v (.int .i64 (x.sum))), (.v (.int .i64 (x.ev.time))), (.fsl ((x.ev.key).map qcp) false), (.v (.int .i64 (x.ev.lp))), (.v (.int .i64 (x.ev.kind))), (.v (.int .i64 (x.ev.proc))), (.v (.int .i64 (x.ev.arg))), (.fsl ((x.out).map Evt.r) false), (.fsl ((x.gone).map qfe) false), (.v (.int .i64 (x.n))), (.v (.bool (x.over)))]), (.v (.int .i64 (i))), (.agg [(.v (.int .i64 (op.code))), (.v (.int .i64 (op.a))), (.v (.int .i64 (op.b))), (.v (.int .i64 (op.c)))])] = some (.tup [(.agg [(.v (.int .i64 ((stepR x i q op).1.r0))), (.v (.int .i64 ((stepR x i q op).1.r1))), (.fsl (((stepR x i q op).1.procs).map Pr.r) false), (.v (.int .i64 ((stepR x i q op).1.sum))), (.v (.int .i64 ((stepR x i q op).1.ev.time))), (.fsl (((stepR x i q op).1.ev.key).map qcp) false), (.v (.int .i64 ((stepR x i q op).1.ev.lp))), (.v (.int .i64 ((stepR x i q op).1.ev.kind))), (.v (.int .i64 ((stepR x i q op).1.ev.proc))), (.v (.int .i64 ((stepR x i q op).1.ev.arg))), (.fsl (((stepR x i q op).1.out).map Evt.r) false), (.fsl (((stepR x i q op).1.gone).map qfe) false), (.v (.int .i64 ((stepR x i q op).1.n))), (.v (.bool ((stepR x i q op).1.over)))]), (.v (.bool ((stepR x i q op).2)))]) := by
  have hl := (List.getElem?_eq_some_iff.1 hq).1
  have hc : op.code = 1 ∨ op.code = 2 ∨ op.code = 3 ∨ op.code = 4 ∨ op.code = 5 ∨ op.code = 6 ∨ op.code = 7 ∨ op.code = 8 := by have := ho.code; omega
  have fin : ∀ (y : Ex) (b : Bool), stepR x i q op = (y, b) → qbk (evL T) qdu [(.agg [(.v (.int .i64 (x.r0))), (.v (.int .i64 (x.r1))), (.fsl ((x.procs).map Pr.r) false), (.v (.int .i64 (x.sum))), (.v (.int .i64 (x.ev.time))), (.fsl ((x.ev.key).map qcp) false), (.v (.int .i64 (x.ev.lp))), (.v (.int .i64 (x.ev.kind))), (.v (.int .i64 (x.ev.proc))), (.v (.int .i64 (x.ev.arg))), (.fsl ((x.out).map Evt.r) false), (.fsl ((x.gone).map qfe) false), (.v (.int .i64 (x.n))), (.v (.bool (x.over)))]), (.v (.int .i64 (i))), (.agg [(.v (.int .i64 (op.code))), (.v (.int .i64 (op.a))), (.v (.int .i64 (op.b))), (.v (.int .i64 (op.c)))])] = some (.tup [(.agg [(.v (.int .i64 (y.r0))), (.v (.int .i64 (y.r1))), (.fsl ((y.procs).map Pr.r) false), (.v (.int .i64 (y.sum))), (.v (.int .i64 (y.ev.time))), (.fsl ((y.ev.key).map qcp) false), (.v (.int .i64 (y.ev.lp))), (.v (.int .i64 (y.ev.kind))), (.v (.int .i64 (y.ev.proc))), (.v (.int .i64 (y.ev.arg))), (.fsl ((y.out).map Evt.r) false), (.fsl ((y.gone).map qfe) false), (.v (.int .i64 (y.n))), (.v (.bool (y.over)))]), (.v (.bool (b)))]) → qbk (evL T) qdu [(.agg [(.v (.int .i64 (x.r0))), (.v (.int .i64 (x.r1))), (.fsl ((x.procs).map Pr.r) false), (.v (.int .i64 (x.sum))), (.v (.int .i64 (x.ev.time))), (.fsl ((x.ev.key).map qcp) false), (.v (.int .i64 (x.ev.lp))), (.v (.int .i64 (x.ev.kind))), (.v (.int .i64 (x.ev.proc))), (.v (.int .i64 (x.ev.arg))), (.fsl ((x.out).map Evt.r) false), (.fsl ((x.gone).map qfe) false), (.v (.int .i64 (x.n))), (.v (.bool (x.over)))]), (.v (.int .i64 (i))), (.agg [(.v (.int .i64 (op.code))), (.v (.int .i64 (op.a))), (.v (.int .i64 (op.b))), (.v (.int .i64 (op.c)))])] = some (.tup [(.agg [(.v (.int .i64 ((stepR x i q op).1.r0))), (.v (.int .i64 ((stepR x i q op).1.r1))), (.fsl (((stepR x i q op).1.procs).map Pr.r) false), (.v (.int .i64 ((stepR x i q op).1.sum))), (.v (.int .i64 ((stepR x i q op).1.ev.time))), (.fsl (((stepR x i q op).1.ev.key).map qcp) false), (.v (.int .i64 ((stepR x i q op).1.ev.lp))), (.v (.int .i64 ((stepR x i q op).1.ev.kind))), (.v (.int .i64 ((stepR x i q op).1.ev.proc))), (.v (.int .i64 ((stepR x i q op).1.ev.arg))), (.fsl (((stepR x i q op).1.out).map Evt.r) false), (.fsl (((stepR x i q op).1.gone).map qfe) false), (.v (.int .i64 ((stepR x i q op).1.n))), (.v (.bool ((stepR x i q op).1.over)))]), (.v (.bool ((stepR x i q op).2)))]) := by
    intro y b e k; rw [e]; exact k
  rcases hc with hc | hc | hc | hc | hc | hc | hc | hc
  · refine fin _ _ ?_ (q6a x i op q h hq hc)
    simp [stepR, qdp, hc, Ex.setP, Ex.create, Ex.ownE, Ex.kid, hi]
  · refine fin _ _ ?_ (q6k x i op q h hq hc)
    simp [stepR, qdp, hc, Ex.setP, Ex.create, Ex.kid]
  · refine fin _ _ ?_ (q3z x i op q h hg hq hc)
    by_cases ht : 0 < q.timer.length
    · simp [stepR, qdp, hc, Ex.timerE, Ex.stopE, Ex.setP, Ex.create, Ex.ownE, Ex.kid, hi, ht, Pr.inc, List.set_set]
    · simp [stepR, qdp, hc, Ex.timerE, Ex.stopE, Ex.setP, Ex.create, Ex.ownE, Ex.kid, hi, ht, Pr.inc, List.set_set]
  · refine fin _ _ ?_ (q6w x i op q h hg hq hc)
    by_cases ht : 0 < q.timer.length
    · simp [stepR, qdp, hc, Ex.stopE, Ex.setP, ht, Pr.inc, List.set_set]
    · simp [stepR, qdp, hc, Ex.stopE, Ex.setP, ht, Pr.inc]
  · refine fin _ _ ?_ (q4m x i op q h hq hc)
    simp [stepR, qdp, hc]
  · refine fin _ _ ?_ (q8i x i op q h hq hc (ho.reg (.inl hc)))
    rcases ho.reg (.inl hc) with h0 | h0 <;> simp [stepR, qdp, hc, Ex.setP, Ex.setReg, Ex.reg, h0]
  · refine fin _ _ ?_ (q6i x i op q h hq hc (ho.reg (.inr hc)))
    have hr : (x.setP i q.inc).reg op.a = x.reg op.a := rfl
    by_cases ht : x.reg op.a < op.b
    · have hr2 : (x.setP i q.inc).reg op.a < op.b := ht
      have : (qdp (x.setP i q.inc) i q.inc op) = ((x.setP i q.inc).setP i { q.inc with pc := op.c }, 0) := by simp only [qdp, hc]; rw [if_pos hr2]; rfl
      simp only [stepR, this, ht, if_true]
      simp [Ex.setP, List.set_set]
    · have hr2 : ¬ (x.setP i q.inc).reg op.a < op.b := ht
      have : (qdp (x.setP i q.inc) i q.inc op) = (x.setP i q.inc, 0) := by simp only [qdp, hc]; rw [if_neg hr2]; rfl
      simp only [stepR, this, ht, if_false]
      simp
  · refine fin _ _ ?_ (q72 x i op q h hq hc)
    have : (x.setP i q.inc).procs[i]? = some q.inc := by simp only [Ex.setP]; rw [List.getElem?_set_self hl]
    have hst : (qdp (x.setP i q.inc) i q.inc op) = (x.setP i q.inc, 2) := by simp [qdp, hc]
    simp only [stepR, hst, qlg, this]
    simp [Ex.setP, List.set_set]
theorem qxp (p : List OpI) (i n : Nat) (x : Ex) (q : Pr) (hq : x.procs[i]? = some q) : qki p i (n + 1) x = match p[q.pc.toNat]? with
    | none => qlg x i
    | some op => if (stepR x i q op).2 = true then (stepR x i q op).1 else qki p i n (stepR x i q op).1 := by
  simp only [qki, hq]
  cases hp : p[q.pc.toNat]? with
  | none => rfl
  | some op =>
    show (if (qdp (x.setP i q.inc) i q.inc op).2 = 1 then (qdp (x.setP i q.inc) i q.inc op).1 else if (qdp (x.setP i q.inc) i q.inc op).2 = 2 then qlg (qdp (x.setP i q.inc) i q.inc op).1 i else qki p i n (qdp (x.setP i q.inc) i q.inc op).1) = (if (stepR x i q op).2 = true then (stepR x i q op).1 else qki p i n (stepR x i q op).1)
    unfold stepR
    by_cases h1 : (qdp (x.setP i q.inc) i q.inc op).2 = 1
    · simp only [h1, if_true]
    by_cases h2 : (qdp (x.setP i q.inc) i q.inc op).2 = 2
    · rw [if_neg h1, if_pos h2, if_neg h1, if_pos h2]; rfl
    · simp only [h1, h2, if_false, Bool.false_eq_true]
set_option maxRecDepth 10000
theorem q6s (x : Ex) (i : Nat) {q : Pr} (hq : x.procs[i]? = some q) : ∃ q', (qlg x i).procs[i]? = some q' ∧ q'.prog = q.prog := by
  have hl := (List.getElem?_eq_some_iff.1 hq).1
  refine ⟨{ q with alive := false }, ?_, rfl⟩
  unfold qlg; rw [hq]; simp only [Ex.setP]; rw [List.getElem?_set_self hl]
theorem q6d (x : Ex) (i : Nat) (q : Pr) (op : OpI) (hq : x.procs[i]? = some q) : ∃ q', (qdp x i q op).1.procs[i]? = some q' ∧ q'.prog = q.prog := by
  have hl := (List.getElem?_eq_some_iff.1 hq).1
  have hst : ∃ q', (x.stopE i q).procs[i]? = some q' ∧ q'.prog = q.prog := by
    unfold Ex.stopE; split
    · exact ⟨{ q with timer := [] }, by simp only; rw [List.getElem?_set_self hl], rfl⟩
    · exact ⟨q, hq, rfl⟩
  unfold qdp
  split
  · exact ⟨q, hq, rfl⟩
  split
  · exact ⟨q, hq, rfl⟩
  split
  · obtain ⟨q', h1, _⟩ := hst
    have hl2 := (List.getElem?_eq_some_iff.1 h1).1
    exact ⟨{ q with timer := (x.stopE i q).kid }, by show ((x.stopE i q).procs.set i _)[i]? = _; rw [List.getElem?_set_self hl2], rfl⟩
  split
  · exact hst
  split
  · refine ⟨q, ?_, rfl⟩
    unfold Ex.spawnE; split
    · show (x.procs ++ [_])[i]? = _
      rw [List.getElem?_append_left hl]; exact hq
    · exact hq
  split
  · refine ⟨q, ?_, rfl⟩
    unfold Ex.setReg; split <;> exact hq
  split
  · split
    · exact ⟨{ q with pc := op.c }, by simp only [Ex.setP]; rw [List.getElem?_set_self hl], rfl⟩
    · exact ⟨q, hq, rfl⟩
  · exact ⟨q, hq, rfl⟩
theorem q59 (x : Ex) (i : Nat) (q : Pr) (op : OpI) (hq : x.procs[i]? = some q) : ∃ q', (stepR x i q op).1.procs[i]? = some q' ∧ q'.prog = q.prog := by
  have hl := (List.getElem?_eq_some_iff.1 hq).1
  have h0 : (x.setP i q.inc).procs[i]? = some q.inc := by simp only [Ex.setP]; rw [List.getElem?_set_self hl]
  obtain ⟨q', h1, h2⟩ := q6d (x.setP i q.inc) i q.inc op h0
  unfold stepR
  split
  · exact ⟨q', h1, h2⟩
  split
  · obtain ⟨q2, h3, h4⟩ := q6s _ i h1
    exact ⟨q2, h3, h4.trans h2⟩
  · exact ⟨q', h1, h2⟩
theorem ActInv.stepR {e : Evt} {i n : Nat} {x : Ex} (h : ActInv e i n x) {q : Pr} (hq : x.procs[i]? = some q) (hpc : 0 ≤ q.pc ∧ q.pc + 1 ≤ 1000000) {op : OpI} (ho : OpOk' op) : ActInv e i (n + 1) (stepR x i q op).1 := by
  have hlt := (List.getElem?_eq_some_iff.1 hq).1
  have hwq : w64 (q.pc + 1) = q.pc + 1 := qat (by omega) (by omega)
  have hz : ActInv e i n (x.setP i q.inc) := by
    have := h.pc hq (pc := q.pc + 1) ⟨by omega, by omega⟩ q.alive
    unfold Pr.inc; rw [hwq]; exact this
  have hzq : (x.setP i q.inc).procs[i]? = some q.inc := by simp only [Ex.setP]; rw [List.getElem?_set_self hlt]
  have hn := hz.step hzq (show 0 ≤ q.inc.pc ∧ q.inc.pc ≤ 1000000 by unfold Pr.inc; simp only [hwq]; omega) ho
  unfold K.stepR
  split
  · exact hn
  split
  · obtain ⟨q', h1, h2⟩ := hn.has
    have := hn.pc h1 h2 false
    unfold qlg; rw [h1]; exact this
  · exact hn
section
variable (c : Cfg) (e0 : Evt) (i : Nat) (p : List OpI) (pr : Int)
def RefEnd (e0 : Evt) (i : Nat) (F : Ex) (y : CExit × Env × qx) : Prop :=
  y.2.1.marks = [] ∧ ((y.1 = .ret ∧ Ev.look y.2.1.vars 6 = some (.ptr 1 0 0 0) ∧ ∃ q : Pr, y.2.2 = [.row 14 [[(.v (.int .i64 (F.r0))), (.v (.int .i64 (F.r1))), (.fsl ((F.procs).map Pr.r) false), (.v (.int .i64 (F.sum))), (.v (.int .i64 (F.ev.time))), (.fsl ((F.ev.key).map qcp) false), (.v (.int .i64 (F.ev.lp))), (.v (.int .i64 (F.ev.kind))), (.v (.int .i64 (F.ev.proc))), (.v (.int .i64 (F.ev.arg))), (.fsl ((F.out).map Evt.r) false), (.fsl ((F.gone).map qfe) false), (.v (.int .i64 (F.n))), (.v (.bool (F.over)))]] 0, .row 14 [[(.v (.int .i64 (F.r0))), (.v (.int .i64 (F.r1))), (.fsl ((F.procs).map Pr.r) false), (.v (.int .i64 (F.sum))), (.v (.int .i64 (F.ev.time))), (.fsl ((F.ev.key).map qcp) false), (.v (.int .i64 (F.ev.lp))), (.v (.int .i64 (F.ev.kind))), (.v (.int .i64 (F.ev.proc))), (.v (.int .i64 (F.ev.arg))), (.fsl ((F.out).map Evt.r) false), (.fsl ((F.gone).map qfe) false), (.v (.int .i64 (F.n))), (.v (.bool (F.over)))]] 0, .row 4 [q.r] 0, .row 14 [[(.v (.int .i64 (F.r0))), (.v (.int .i64 (F.r1))), (.fsl ((F.procs).map Pr.r) false), (.v (.int .i64 (F.sum))), (.v (.int .i64 (F.ev.time))), (.fsl ((F.ev.key).map qcp) false), (.v (.int .i64 (F.ev.lp))), (.v (.int .i64 (F.ev.kind))), (.v (.int .i64 (F.ev.proc))), (.v (.int .i64 (F.ev.arg))), (.fsl ((F.out).map Evt.r) false), (.fsl ((F.gone).map qfe) false), (.v (.int .i64 (F.n))), (.v (.bool (F.over)))]] 0]) ∨
    (y.1 = .exit 0 ∧ ∃ z : Ex, ActInv e0 i 16 z ∧ qlg z i = F ∧ Ev.look y.2.1.vars 4 = some (.ptr 0 0 0 0) ∧ Ev.look y.2.1.vars 6 = some (.ptr 1 0 0 0) ∧ Ev.look y.2.1.vars 2 = some (.v (.int .i64 (i))) ∧
      (y.2.2 = [.row 14 [[(.v (.int .i64 (z.r0))), (.v (.int .i64 (z.r1))), (.fsl ((z.procs).map Pr.r) false), (.v (.int .i64 (z.sum))), (.v (.int .i64 (z.ev.time))), (.fsl ((z.ev.key).map qcp) false), (.v (.int .i64 (z.ev.lp))), (.v (.int .i64 (z.ev.kind))), (.v (.int .i64 (z.ev.proc))), (.v (.int .i64 (z.ev.arg))), (.fsl ((z.out).map Evt.r) false), (.fsl ((z.gone).map qfe) false), (.v (.int .i64 (z.n))), (.v (.bool (z.over)))]] 0, .row 14 [[(.v (.int .i64 (0))), (.v (.int .i64 (0))), .fsl [] false, (.v (.int .i64 (0))), (.v (.int .i64 (0))), .fsl [] false, (.v (.int .i64 (0))), (.v (.int .i64 (0))), (.v (.int .i64 (0))), (.v (.int .i64 (0))), .fsl [] false, .fsl [] false, (.v (.int .i64 (0))), (.v (.bool (false)))]] 0] ∨ ∃ q : Pr, y.2.2 = [.row 14 [[(.v (.int .i64 (z.r0))), (.v (.int .i64 (z.r1))), (.fsl ((z.procs).map Pr.r) false), (.v (.int .i64 (z.sum))), (.v (.int .i64 (z.ev.time))), (.fsl ((z.ev.key).map qcp) false), (.v (.int .i64 (z.ev.lp))), (.v (.int .i64 (z.ev.kind))), (.v (.int .i64 (z.ev.proc))), (.v (.int .i64 (z.ev.arg))), (.fsl ((z.out).map Evt.r) false), (.fsl ((z.gone).map qfe) false), (.v (.int .i64 (z.n))), (.v (.bool (z.over)))]] 0, .row 14 [[(.v (.int .i64 (0))), (.v (.int .i64 (0))), .fsl [] false, (.v (.int .i64 (0))), (.v (.int .i64 (0))), .fsl [] false, (.v (.int .i64 (0))), (.v (.int .i64 (0))), (.v (.int .i64 (0))), (.v (.int .i64 (0))), .fsl [] false, .fsl [] false, (.v (.int .i64 (0))), (.v (.bool (false)))]] 0, .row 4 [q.r] 0])))
theorem q84 (hk : e0.key.length ≤ 1000) (hpr : e0.proc = i) (hpl : p.length ≤ 1000) (hok : ∀ op ∈ p, OpOk' op) (h0 : 0 ≤ pr) (hp : c.progs[pr.toNat]? = some p) (x : Ex) (hx : ActInv e0 i 0 x) (hxp : ∃ q, x.procs[i]? = some q ∧ q.prog = pr) :
    ∃ y, itB (exec (evL T) itL none qev) (Ev.qs [2, 3, 4, 6, 7] true 2) ⟨[(2, (.v (.int .i64 (i)))), (3, (.fptr [(.fsl ((c.lps).map lpC) false), (.fsl ((c.progs).map qbu) false), (.v (.int .i64 (c.look))), (.v (.int .i64 (c.fin))), (.v (.int .i64 (c.cap)))])), (4, .ptr 0 0 0 0), (6, .ptr 1 0 0 0), (7, (.v (.int .i64 (0))))], []⟩ [.row 14 [[(.v (.int .i64 (x.r0))), (.v (.int .i64 (x.r1))), (.fsl ((x.procs).map Pr.r) false), (.v (.int .i64 (x.sum))), (.v (.int .i64 (x.ev.time))), (.fsl ((x.ev.key).map qcp) false), (.v (.int .i64 (x.ev.lp))), (.v (.int .i64 (x.ev.kind))), (.v (.int .i64 (x.ev.proc))), (.v (.int .i64 (x.ev.arg))), (.fsl ((x.out).map Evt.r) false), (.fsl ((x.gone).map qfe) false), (.v (.int .i64 (x.n))), (.v (.bool (x.over)))]] 0, .row 14 [[(.v (.int .i64 (0))), (.v (.int .i64 (0))), .fsl [] false, (.v (.int .i64 (0))), (.v (.int .i64 (0))), .fsl [] false, (.v (.int .i64 (0))), (.v (.int .i64 (0))), (.v (.int .i64 (0))), (.v (.int .i64 (0))), .fsl [] false, .fsl [] false, (.v (.int .i64 (0))), (.v (.bool (false)))]] 0] = some y ∧ RefEnd e0 i (qki p i 16 x) y := by
  have := qjm (f := exec (evL T) itL none qev) (s := Ev.qs [2, 3, 4, 6, 7] true 2) (α := Ex) (fun j _ => ⟨[(2, (.v (.int .i64 (i)))), (3, (.fptr [(.fsl ((c.lps).map lpC) false), (.fsl ((c.progs).map qbu) false), (.v (.int .i64 (c.look))), (.v (.int .i64 (c.fin))), (.v (.int .i64 (c.cap)))])), (4, .ptr 0 0 0 0), (6, .ptr 1 0 0 0), (7, (.v (.int .i64 ((j : Int)))))], []⟩) (fun _ a => [.row 14 [[(.v (.int .i64 (a.r0))), (.v (.int .i64 (a.r1))), (.fsl ((a.procs).map Pr.r) false), (.v (.int .i64 (a.sum))), (.v (.int .i64 (a.ev.time))), (.fsl ((a.ev.key).map qcp) false), (.v (.int .i64 (a.ev.lp))), (.v (.int .i64 (a.ev.kind))), (.v (.int .i64 (a.ev.proc))), (.v (.int .i64 (a.ev.arg))), (.fsl ((a.out).map Evt.r) false), (.fsl ((a.gone).map qfe) false), (.v (.int .i64 (a.n))), (.v (.bool (a.over)))]] 0, .row 14 [[(.v (.int .i64 (0))), (.v (.int .i64 (0))), .fsl [] false, (.v (.int .i64 (0))), (.v (.int .i64 (0))), .fsl [] false, (.v (.int .i64 (0))), (.v (.int .i64 (0))), (.v (.int .i64 (0))), (.v (.int .i64 (0))), .fsl [] false, .fsl [] false, (.v (.int .i64 (0))), (.v (.bool (false)))]] 0])
    (fun j a => ActInv e0 i j a ∧ (∃ q, a.procs[i]? = some q ∧ q.prog = pr) ∧ qki p i (16 - j) a = qki p i 16 x) 16 (RefEnd e0 i (qki p i 16 x)) ?_ ?_ 0 x (Nat.zero_le _) ⟨hx, hxp, rfl⟩
  · exact this
  · rintro j y hj ⟨hi1, ⟨q, hq, hqp⟩, hi2⟩
    have hpc : 0 ≤ q.pc ∧ q.pc ≤ 1000000 := by obtain ⟨q', h1, h2⟩ := hi1.has; rw [hq] at h1; cases h1; exact h2
    have hlt := (List.getElem?_eq_some_iff.1 hq).1
    have hpr' : y.ev.proc = i := by rw [hi1.ev]; exact hpr
    have hj' : (j : Int) < 16 := by omega
    have hw : IntKind.i64.wrap ((j : Int) + 1) = ((j + 1 : Nat) : Int) := by rw [qat (by omega) (by omega)]; simp
    rw [show 16 - j = (16 - (j + 1)) + 1 from by omega, qxp p i _ y q hq] at hi2
    cases hop : p[q.pc.toNat]? with
    | none =>
      rw [hop] at hi2
      simp only at hi2
      have hge : q.pc ≥ (p.length : Int) := by have := List.getElem?_eq_none_iff.1 hop; omega
      right
      simp only [qev, hj', hge, Int.natCast_nonneg, Int.toNat_natCast, List.getElem?_map, Option.map_some, hq, hqp, h0, hp, Pr.r, qbu, Ev.exec, Ev.qb, Ev.qe, Ev.qc, Ev.qaf, Ev.Opnd.ev, Ev.Env.get, Ev.Env.set, Ev.look, Ev.qi, Ev.qab, Ev.AV.cells, Ev.qv, Ev.AV.plain, Ev.qo, Ev.qbz, List.length_map, ↓Ev.qq, Ev.it1, ↓reduceIte, List.length_cons, List.length_nil, List.getElem?_cons_zero, List.getElem?_cons_succ, List.take_succ_cons, List.take_zero, List.take_nil, List.drop_succ_cons, List.drop_zero, List.drop_nil, List.cons_append, List.nil_append, List.append_nil, List.set_cons_zero, List.set_cons_succ, List.head?_cons, Nat.reduceAdd, Nat.reduceEqDiff, reduceCtorEq, decide_true, Bool.and_self, Bool.false_eq_true, and_self, ne_eq, not_false_eq_true, List.cons_ne_nil, Nat.zero_add, Nat.add_zero, Nat.le_refl, eq_self]
      exact ⟨_, rfl, rfl, .inr ⟨rfl, y, ⟨hi1.ev, hi1.has, hi1.procs, by have := hi1.out; omega, by have := hi1.gone; omega⟩, hi2, rfl, rfl, rfl, .inr ⟨⟨pr, q.pc, q.alive, q.timer⟩, rfl⟩⟩⟩
    | some op =>
      rw [hop] at hi2
      simp only at hi2
      have hlp := (List.getElem?_eq_some_iff.1 hop).1
      have hge : ¬ q.pc ≥ (p.length : Int) := by omega
      have hoo := hok op (List.mem_of_getElem? hop)
      have hv := rstep_ev y i op q (hi1.small (by omega) hk) (by have := hi1.gone; omega) hpr' hq hoo
      have hn := hi1.stepR hq ⟨by omega, by omega⟩ hoo
      have hnp := q59 y i q op hq
      rw [hqp] at hnp
      generalize stepR y i q op = S at hi2 hn hv hnp
      obtain ⟨z, b⟩ := S
      simp only at hi2 hn hv hnp
      cases b with
      | true =>
        right
        simp only [if_true] at hi2
        simp only [qev, hj', hge, hv, Int.natCast_nonneg, Int.toNat_natCast, List.getElem?_map, Option.map_some, hq, hqp, h0, hp, hpc, hop, Pr.r, OpI.r, qbu, qax, qar, qah, qb0, Ev.exec, Ev.qb, Ev.qe, Ev.qc, Ev.qa9, Ev.qaf, Ev.evs, Ev.Opnd.ev, Ev.Env.get, Ev.Env.set, Ev.look, Ev.qi, Ev.qab, Ev.AV.cells, Ev.qv, Ev.AV.plain, Ev.qo, Ev.qbz, Ev.qa4, Ev.qbn, Ev.qy, Ev.qj, Ev.qk, List.length_map, ↓Ev.qq, Ev.it1, ↓reduceIte, List.length_cons, List.length_nil, List.getElem?_cons_zero, List.getElem?_cons_succ, List.take_succ_cons, List.take_zero, List.take_nil, List.drop_succ_cons, List.drop_zero, List.drop_nil, List.cons_append, List.nil_append, List.append_nil, List.set_cons_zero, List.set_cons_succ, List.head?_cons, Nat.reduceAdd, Nat.reduceEqDiff, decide_true, decide_false, Bool.and_self, Bool.false_eq_true, and_self, ne_eq, not_false_eq_true, List.cons_ne_nil, Nat.zero_add, Nat.add_zero, Nat.le_refl, eq_self]
        exact ⟨_, rfl, rfl, .inl ⟨rfl, rfl, ⟨pr, q.pc, q.alive, q.timer⟩, by rw [← hi2]; rfl⟩⟩
      | false =>
        left
        simp only [Bool.false_eq_true, if_false] at hi2
        refine ⟨z, ?_, hn, hnp, hi2⟩
        simp only [qev, hj', hge, hv, hw, Int.natCast_nonneg, Int.toNat_natCast, List.getElem?_map, Option.map_some, hq, hqp, h0, hp, hpc, hop, Pr.r, OpI.r, qbu, qbh, qcg, qax, qar, qah, qb0, Nat.reduceLT, Ev.exec, Ev.qb, Ev.qe, Ev.qc, Ev.qa9, Ev.qaf, Ev.evs, Ev.Opnd.ev, Ev.Env.get, Ev.Env.set, Ev.look, Ev.qi, Ev.qab, Ev.AV.cells, Ev.qv, Ev.AV.plain, Ev.qaj, Ev.qo, Ev.qbz, Ev.qs, Ev.keep, Ev.qai, Ev.qaa, Ev.qd, Ev.SObj.lo, Ev.qa4, Ev.qbn, Ev.qy, Ev.qdf, Ev.qjv, Ev.qj, Ev.qk, Ev.qac, Ev.qaq, List.length_map, ↓Ev.qq, Ev.it1, ↓reduceIte, List.length_cons, List.length_nil, List.getElem?_cons_zero, List.getElem?_cons_succ, List.take_succ_cons, List.take_zero, List.take_nil, List.drop_succ_cons, List.drop_zero, List.drop_nil, List.cons_append, List.nil_append, List.append_nil, List.set_cons_zero, List.set_cons_succ, List.head?_cons, Nat.reduceAdd, Nat.reduceEqDiff, Nat.reduceLT, decide_true, decide_false, Bool.and_self, Bool.false_eq_true, and_self, ne_eq, not_false_eq_true, List.cons_ne_nil, Nat.zero_add, Nat.add_zero, Nat.lt_add_one, Nat.le_refl, eq_self]
  · rintro y ⟨hi1, _, hi2⟩
    simp only [qev, Int.lt_irrefl, Ev.exec, Ev.qb, Ev.qe, Ev.qc, Ev.qaf, Ev.Opnd.ev, Ev.Env.get, Ev.Env.set, Ev.look, Ev.qo, ↓Ev.qq, Ev.it1, ↓reduceIte, Nat.reduceEqDiff, Int.cast_ofNat_Int, decide_false, Bool.false_eq_true, eq_self]
    exact ⟨_, rfl, rfl, .inr ⟨rfl, y, hi1, hi2, rfl, rfl, rfl, .inl rfl⟩⟩
theorem quv (hk : e0.key.length ≤ 1000) (hpr : e0.proc = i) (hpl : p.length ≤ 1000) (hok : ∀ op ∈ p, OpOk' op) (h0 : 0 ≤ pr) (hp : c.progs[pr.toNat]? = some p) (x : Ex) (hx : ActInv e0 i 0 x) (hxp : ∃ q, x.procs[i]? = some q ∧ q.prog = pr) :
    qbk (evL T) qg4 [(.agg [(.fsl ((c.lps).map lpC) false), (.fsl ((c.progs).map qbu) false), (.v (.int .i64 (c.look))), (.v (.int .i64 (c.fin))), (.v (.int .i64 (c.cap)))]), (.agg [(.v (.int .i64 (x.r0))), (.v (.int .i64 (x.r1))), (.fsl ((x.procs).map Pr.r) false), (.v (.int .i64 (x.sum))), (.v (.int .i64 (x.ev.time))), (.fsl ((x.ev.key).map qcp) false), (.v (.int .i64 (x.ev.lp))), (.v (.int .i64 (x.ev.kind))), (.v (.int .i64 (x.ev.proc))), (.v (.int .i64 (x.ev.arg))), (.fsl ((x.out).map Evt.r) false), (.fsl ((x.gone).map qfe) false), (.v (.int .i64 (x.n))), (.v (.bool (x.over)))]), (.v (.int .i64 (i)))] = some (.agg [(.v (.int .i64 ((qki p i 16 x).r0))), (.v (.int .i64 ((qki p i 16 x).r1))), (.fsl (((qki p i 16 x).procs).map Pr.r) false), (.v (.int .i64 ((qki p i 16 x).sum))), (.v (.int .i64 ((qki p i 16 x).ev.time))), (.fsl (((qki p i 16 x).ev.key).map qcp) false), (.v (.int .i64 ((qki p i 16 x).ev.lp))), (.v (.int .i64 ((qki p i 16 x).ev.kind))), (.v (.int .i64 ((qki p i 16 x).ev.proc))), (.v (.int .i64 ((qki p i 16 x).ev.arg))), (.fsl (((qki p i 16 x).out).map Evt.r) false), (.fsl (((qki p i 16 x).gone).map qfe) false), (.v (.int .i64 ((qki p i 16 x).n))), (.v (.bool ((qki p i 16 x).over)))]) := by
  obtain ⟨⟨y, e, σ⟩, k1, k2, k3⟩ := q84 c e0 i p pr hk hpr hpl hok h0 hp x hx hxp
  simp only at k2 k3
  generalize qki p i 16 x = F at k3
  rw [qbk, qu qtc qs7]
  rcases k3 with ⟨rfl, k4, q, rfl⟩ | ⟨rfl, z, kz, k4, k5, k6, k7, k8⟩
  · simp only [qg0, k1, k2, k4, qbh, qcg, qax, qar, qah, qb0, Nat.reduceLT, Ev.qm, Ev.exec, Ev.qb, Ev.qe, Ev.qc, Ev.qaf, Ev.Opnd.ev, Ev.Env.get, Ev.Env.set, Ev.look, Ev.qn, Ev.qi, Ev.qab, Ev.AV.cells, Ev.qv, Ev.AV.plain, Ev.ql, Ev.qw, Ev.qae, Ev.kill, Ev.qad, Ev.qs, Ev.keep, Ev.qai, Ev.qaa, Ev.qd, Ev.SObj.lo, Ev.qa4, Ev.qbn, Ev.qy, Ev.qdf, Ev.qjv, Ev.qj, Ev.qk, Ev.qac, Ev.qaq, Ev.qal, ↓Ev.qq, ↓Ev.qan, ↓reduceIte, List.length_cons, List.length_nil, List.getElem?_cons_zero, List.getElem?_cons_succ, List.take_succ_cons, List.take_zero, List.take_nil, List.drop_zero, List.cons_append, List.nil_append, Nat.reduceAdd, Nat.reduceEqDiff, Nat.reduceLT, reduceCtorEq, decide_true, Bool.and_self, and_self, ne_eq, not_false_eq_true, List.cons_ne_nil, Nat.zero_add, Nat.lt_add_one, Nat.le_refl, eq_self]
  · obtain ⟨q, hq, hpc⟩ := kz.has
    have hlt := (List.getElem?_eq_some_iff.1 hq).1
    have hv := qeh z (by have := kz.procs; omega) i hlt { q with alive := false }
    have hkz : qlg z i = z.setP i { q with alive := false } := by unfold qlg; rw [hq]
    rw [hkz] at k4
    subst k4
    simp only at hv
    rcases k8 with rfl | ⟨q2, rfl⟩
    · simp only [qg0, k1, k2, k5, k6, k7, hq, hv, Pr.r, Int.natCast_nonneg, Int.toNat_natCast, List.getElem?_map, Option.map_some, qbh, qcg, qax, qar, qah, qb0, Nat.reduceLT, Nat.reduceLeDiff, Ev.qm, Ev.exec, Ev.qb, Ev.qe, Ev.qc, Ev.qa9, Ev.qaf, Ev.evs, Ev.Opnd.ev, Ev.Env.get, Ev.Env.set, Ev.look, Ev.qn, Ev.qi, Ev.qab, Ev.AV.cells, Ev.AV.uc, Ev.qv, Ev.AV.plain, Ev.ql, Ev.qw, Ev.qae, Ev.kill, Ev.qad, Ev.qs, Ev.keep, Ev.qai, Ev.qaa, Ev.qd, Ev.SObj.lo, Ev.qa4, Ev.qbn, Ev.qy, Ev.qdf, Ev.qjv, Ev.qj, Ev.qk, Ev.qac, Ev.qaq, Ev.qal, ↓Ev.qq, ↓Ev.qan, ↓reduceIte, List.length_cons, List.length_nil, List.getElem?_cons_zero, List.getElem?_cons_succ, List.take_succ_cons, List.take_zero, List.take_nil, List.drop_succ_cons, List.drop_zero, List.drop_nil, List.cons_append, List.nil_append, List.append_nil, List.set_cons_zero, List.set_cons_succ, List.head?_cons, Nat.reduceAdd, Nat.reduceEqDiff, Nat.reduceLT, Nat.reduceLeDiff, reduceCtorEq, decide_true, Bool.and_self, Bool.false_eq_true, and_self, ne_eq, not_false_eq_true, List.cons_ne_nil, Nat.zero_add, Nat.add_zero, Nat.lt_add_one, Nat.le_refl, eq_self]
    · simp only [qg0, k1, k2, k5, k6, k7, hq, hv, Pr.r, Int.natCast_nonneg, Int.toNat_natCast, List.getElem?_map, Option.map_some, qbh, qcg, qax, qar, qah, qb0, Nat.reduceLT, Nat.reduceLeDiff, Ev.qm, Ev.exec, Ev.qb, Ev.qe, Ev.qc, Ev.qa9, Ev.qaf, Ev.evs, Ev.Opnd.ev, Ev.Env.get, Ev.Env.set, Ev.look, Ev.qn, Ev.qi, Ev.qab, Ev.AV.cells, Ev.AV.uc, Ev.qv, Ev.AV.plain, Ev.ql, Ev.qw, Ev.qae, Ev.kill, Ev.qad, Ev.qs, Ev.keep, Ev.qai, Ev.qaa, Ev.qd, Ev.SObj.lo, Ev.qa4, Ev.qbn, Ev.qy, Ev.qdf, Ev.qjv, Ev.qj, Ev.qk, Ev.qac, Ev.qaq, Ev.qal, ↓Ev.qq, ↓Ev.qan, ↓reduceIte, List.length_cons, List.length_nil, List.getElem?_cons_zero, List.getElem?_cons_succ, List.take_succ_cons, List.take_zero, List.take_nil, List.drop_succ_cons, List.drop_zero, List.drop_nil, List.cons_append, List.nil_append, List.append_nil, List.set_cons_zero, List.set_cons_succ, List.head?_cons, Nat.reduceAdd, Nat.reduceEqDiff, Nat.reduceLT, Nat.reduceLeDiff, reduceCtorEq, decide_true, Bool.and_self, Bool.false_eq_true, and_self, ne_eq, not_false_eq_true, List.cons_ne_nil, Nat.zero_add, Nat.add_zero, Nat.lt_add_one, Nat.le_refl, eq_self]
end
set_option maxRecDepth 10000
section
variable (c : Cfg) (x : Lp) (e : Evt)
theorem q7i (hk : e.kind = 3) : qbk (evL T) qgd [(.agg [(.fsl ((c.lps).map lpC) false), (.fsl ((c.progs).map qbu) false), (.v (.int .i64 (c.look))), (.v (.int .i64 (c.fin))), (.v (.int .i64 (c.cap)))]), (.agg [(.v (.int .i64 (x.r0))), (.v (.int .i64 (x.r1))), (.fsl ((x.procs).map Pr.r) false), (.v (.int .i64 (x.sum)))]), (.agg [(.v (.int .i64 (e.time))), (.fsl ((e.key).map qcp) false), (.v (.int .i64 (e.lp))), (.v (.int .i64 (e.kind))), (.v (.int .i64 (e.proc))), (.v (.int .i64 (e.arg)))])] = some (.tup [(.agg [(.v (.int .i64 ((⟨x.r0, x.r1, x.procs, w64 (x.sum + e.arg)⟩ : Lp).r0))), (.v (.int .i64 ((⟨x.r0, x.r1, x.procs, w64 (x.sum + e.arg)⟩ : Lp).r1))), (.fsl (((⟨x.r0, x.r1, x.procs, w64 (x.sum + e.arg)⟩ : Lp).procs).map Pr.r) false), (.v (.int .i64 ((⟨x.r0, x.r1, x.procs, w64 (x.sum + e.arg)⟩ : Lp).sum)))]), .fsl [] true, .fsl [] true, (.v (.bool (false)))]) := by
  rw [qbk, qu qk9 qkp]
  simp only [qb9, hk, qar, Nat.reduceLeDiff, Ev.qm, Ev.exec, Ev.qb, Ev.qe, Ev.qc, Ev.qaf, Ev.Opnd.ev, Ev.Env.get, Ev.Env.set, Ev.look, Ev.qn, Ev.qi, Ev.qab, Ev.qff, Ev.AV.cells, Ev.AV.uc, Ev.qv, Ev.AV.plain, Ev.qaj, Ev.qak, Ev.ql, Ev.qw, Ev.qae, Ev.kill, Ev.qad, Ev.qd, Ev.qa4, Ev.qbn, Ev.qbc, Ev.qy, Ev.qj, Ev.qk, Ev.qac, Ev.qal, ↓Ev.qq, ↓reduceIte, List.length_cons, List.length_nil, List.getElem?_cons_zero, List.getElem?_cons_succ, List.take_succ_cons, List.take_zero, List.take_nil, List.drop_succ_cons, List.drop_zero, List.drop_nil, List.cons_append, List.nil_append, List.append_nil, List.set_cons_zero, List.set_cons_succ, List.head?_cons, Nat.reduceAdd, Nat.reduceEqDiff, Nat.reduceLeDiff, reduceCtorEq, decide_true, Bool.and_self, Bool.false_eq_true, and_self, ne_eq, not_false_eq_true, List.cons_ne_nil, Nat.zero_add, Nat.add_zero, Nat.le_refl, eq_self]
theorem q54 (hk : ¬ e.kind = 3) (ha : qlw x e = none) : qbk (evL T) qgd [(.agg [(.fsl ((c.lps).map lpC) false), (.fsl ((c.progs).map qbu) false), (.v (.int .i64 (c.look))), (.v (.int .i64 (c.fin))), (.v (.int .i64 (c.cap)))]), (.agg [(.v (.int .i64 (x.r0))), (.v (.int .i64 (x.r1))), (.fsl ((x.procs).map Pr.r) false), (.v (.int .i64 (x.sum)))]), (.agg [(.v (.int .i64 (e.time))), (.fsl ((e.key).map qcp) false), (.v (.int .i64 (e.lp))), (.v (.int .i64 (e.kind))), (.v (.int .i64 (e.proc))), (.v (.int .i64 (e.arg)))])] = some (.tup [(.agg [(.v (.int .i64 (x.r0))), (.v (.int .i64 (x.r1))), (.fsl ((x.procs).map Pr.r) false), (.v (.int .i64 (x.sum)))]), .fsl [] true, .fsl [] true, (.v (.bool (false)))]) := by
  rw [qbk, qu qk9 qkp]
  by_cases k1 : e.kind = 1
  case neg =>
    by_cases k2 : e.kind = 2
    case neg => simp only [qb9, hk, k1, k2, qar, Nat.reduceLeDiff, Ev.qm, Ev.exec, Ev.qb, Ev.qe, Ev.qc, Ev.qaf, Ev.Opnd.ev, Ev.Env.get, Ev.Env.set, Ev.Env.unset, Ev.look, Ev.qn, Ev.qi, Ev.qab, Ev.qff, Ev.AV.cells, Ev.qv, Ev.AV.plain, Ev.qak, Ev.qbd, Ev.ql, Ev.qw, Ev.qae, Ev.kill, Ev.qad, Ev.qd, Ev.qa4, Ev.qbn, Ev.qbc, Ev.qy, Ev.qj, Ev.qk, Ev.qac, Ev.qal, ↓Ev.qq, ↓reduceIte, List.length_cons, List.length_nil, List.getElem?_cons_zero, List.getElem?_cons_succ, List.take_succ_cons, List.take_zero, List.take_nil, List.drop_succ_cons, List.drop_zero, List.drop_nil, List.cons_append, List.nil_append, List.append_nil, List.set_cons_zero, List.set_cons_succ, List.head?_cons, Nat.reduceAdd, Nat.reduceEqDiff, Nat.reduceLeDiff, reduceCtorEq, decide_true, decide_false, Bool.and_self, Bool.false_eq_true, Bool.true_eq_false, and_self, ne_eq, not_false_eq_true, List.cons_ne_nil, Nat.zero_add, Nat.le_refl, eq_self]
    by_cases h1 : e.proc < 0
    · simp only [qb9, k2, h1, qar, Nat.reduceLeDiff, Ev.qm, Ev.exec, Ev.qb, Ev.qe, Ev.qc, Ev.qaf, Ev.Opnd.ev, Ev.Env.get, Ev.Env.set, Ev.Env.unset, Ev.look, Ev.qn, Ev.qi, Ev.qab, Ev.qff, Ev.AV.cells, Ev.qv, Ev.AV.plain, Ev.qak, Ev.qbd, Ev.qo, Ev.ql, Ev.qw, Ev.qae, Ev.kill, Ev.qad, Ev.qd, Ev.qa4, Ev.qbn, Ev.qbc, Ev.qy, Ev.qj, Ev.qk, Ev.qac, Ev.qal, ↓Ev.qq, ↓reduceIte, List.length_cons, List.length_nil, List.getElem?_cons_zero, List.getElem?_cons_succ, List.take_succ_cons, List.take_zero, List.take_nil, List.drop_succ_cons, List.drop_zero, List.drop_nil, List.cons_append, List.nil_append, List.append_nil, List.set_cons_zero, List.set_cons_succ, List.head?_cons, Nat.reduceAdd, Nat.reduceEqDiff, Nat.reduceLeDiff, Int.reduceEq, reduceCtorEq, decide_true, decide_false, Bool.and_self, Bool.false_eq_true, Bool.true_eq_false, and_self, ne_eq, not_false_eq_true, not_true_eq_false, List.cons_ne_nil, Nat.zero_add, Nat.le_refl, eq_self]
    by_cases h2 : e.proc ≥ (x.procs.length : Int)
    · simp only [qb9, k2, h1, h2, qar, Nat.reduceLeDiff, Ev.qm, Ev.exec, Ev.qb, Ev.qe, Ev.qc, Ev.qaf, Ev.Opnd.ev, Ev.Env.get, Ev.Env.set, Ev.Env.unset, Ev.look, Ev.qn, Ev.qi, Ev.qab, Ev.qff, Ev.AV.cells, Ev.qv, Ev.AV.plain, Ev.qak, Ev.qbd, Ev.qo, Ev.qbz, Ev.ql, Ev.qw, Ev.qae, Ev.kill, Ev.qad, Ev.qd, Ev.qa4, Ev.qbn, Ev.qbc, Ev.qy, Ev.qj, Ev.qk, Ev.qac, Ev.qal, List.length_map, ↓Ev.qq, ↓reduceIte, List.length_cons, List.length_nil, List.getElem?_cons_zero, List.getElem?_cons_succ, List.take_succ_cons, List.take_zero, List.take_nil, List.drop_succ_cons, List.drop_zero, List.drop_nil, List.cons_append, List.nil_append, List.append_nil, List.set_cons_zero, List.set_cons_succ, List.head?_cons, Nat.reduceAdd, Nat.reduceEqDiff, Nat.reduceLeDiff, Int.reduceEq, reduceCtorEq, decide_true, decide_false, Bool.and_self, Bool.false_eq_true, Bool.true_eq_false, and_self, ne_eq, not_false_eq_true, not_true_eq_false, List.cons_ne_nil, Nat.zero_add, Nat.le_refl, eq_self]
    obtain ⟨q, hq⟩ : ∃ q, x.procs[e.proc.toNat]? = some q := ⟨_, List.getElem?_eq_getElem (by omega)⟩
    have h0 : 0 ≤ e.proc := by omega
    have hal : q.alive = false := by
      unfold qlw at ha
      rw [if_pos ⟨.inr k2, h0⟩, hq] at ha
      cases h : q.alive with
      | false => rfl
      | true => simp [h] at ha
    simp only [qb9, k2, h0, h1, h2, hq, hal, List.getElem?_map, Option.map_some, Pr.r, qar, Nat.reduceLeDiff, Ev.qm, Ev.exec, Ev.qb, Ev.qe, Ev.qc, Ev.qaf, Ev.Opnd.ev, Ev.Env.get, Ev.Env.set, Ev.look, Ev.qn, Ev.qi, Ev.qab, Ev.qff, Ev.AV.cells, Ev.qv, Ev.AV.plain, Ev.qak, Ev.qbd, Ev.qo, Ev.qbz, Ev.ql, Ev.qw, Ev.qae, Ev.kill, Ev.qad, Ev.qd, Ev.qa4, Ev.qbn, Ev.qbc, Ev.qy, Ev.qj, Ev.qk, Ev.qac, Ev.qal, List.length_map, ↓Ev.qq, ↓reduceIte, List.length_cons, List.length_nil, List.getElem?_cons_zero, List.getElem?_cons_succ, List.take_succ_cons, List.take_zero, List.take_nil, List.drop_succ_cons, List.drop_zero, List.drop_nil, List.cons_append, List.nil_append, List.append_nil, List.set_cons_zero, List.set_cons_succ, List.head?_cons, Nat.reduceAdd, Nat.reduceEqDiff, Nat.reduceLeDiff, Int.reduceEq, reduceCtorEq, decide_true, decide_false, Bool.and_self, Bool.not_false, Bool.false_eq_true, and_self, ne_eq, not_false_eq_true, not_true_eq_false, List.cons_ne_nil, Nat.zero_add, Nat.le_refl, eq_self]
  by_cases h1 : e.proc < 0
  · simp only [qb9, k1, h1, qar, Nat.reduceLeDiff, Ev.qm, Ev.exec, Ev.qb, Ev.qe, Ev.qc, Ev.qaf, Ev.Opnd.ev, Ev.Env.get, Ev.Env.set, Ev.Env.unset, Ev.look, Ev.qn, Ev.qi, Ev.qab, Ev.qff, Ev.AV.cells, Ev.qv, Ev.AV.plain, Ev.qak, Ev.qbd, Ev.qo, Ev.ql, Ev.qw, Ev.qae, Ev.kill, Ev.qad, Ev.qd, Ev.qa4, Ev.qbn, Ev.qbc, Ev.qy, Ev.qj, Ev.qk, Ev.qac, Ev.qal, ↓Ev.qq, ↓reduceIte, List.length_cons, List.length_nil, List.getElem?_cons_zero, List.getElem?_cons_succ, List.take_succ_cons, List.take_zero, List.take_nil, List.drop_succ_cons, List.drop_zero, List.drop_nil, List.cons_append, List.nil_append, List.append_nil, List.set_cons_zero, List.set_cons_succ, List.head?_cons, Nat.reduceAdd, Nat.reduceEqDiff, Nat.reduceLeDiff, Int.reduceEq, reduceCtorEq, decide_true, decide_false, Bool.and_self, Bool.false_eq_true, Bool.true_eq_false, and_self, ne_eq, not_false_eq_true, not_true_eq_false, List.cons_ne_nil, Nat.zero_add, Nat.le_refl, eq_self]
  by_cases h2 : e.proc ≥ (x.procs.length : Int)
  · simp only [qb9, k1, h1, h2, qar, Nat.reduceLeDiff, Ev.qm, Ev.exec, Ev.qb, Ev.qe, Ev.qc, Ev.qaf, Ev.Opnd.ev, Ev.Env.get, Ev.Env.set, Ev.Env.unset, Ev.look, Ev.qn, Ev.qi, Ev.qab, Ev.qff, Ev.AV.cells, Ev.qv, Ev.AV.plain, Ev.qak, Ev.qbd, Ev.qo, Ev.qbz, Ev.ql, Ev.qw, Ev.qae, Ev.kill, Ev.qad, Ev.qd, Ev.qa4, Ev.qbn, Ev.qbc, Ev.qy, Ev.qj, Ev.qk, Ev.qac, Ev.qal, List.length_map, ↓Ev.qq, ↓reduceIte, List.length_cons, List.length_nil, List.getElem?_cons_zero, List.getElem?_cons_succ, List.take_succ_cons, List.take_zero, List.take_nil, List.drop_succ_cons, List.drop_zero, List.drop_nil, List.cons_append, List.nil_append, List.append_nil, List.set_cons_zero, List.set_cons_succ, List.head?_cons, Nat.reduceAdd, Nat.reduceEqDiff, Nat.reduceLeDiff, Int.reduceEq, reduceCtorEq, decide_true, decide_false, Bool.and_self, Bool.false_eq_true, Bool.true_eq_false, and_self, ne_eq, not_false_eq_true, not_true_eq_false, List.cons_ne_nil, Nat.zero_add, Nat.le_refl, eq_self]
  obtain ⟨q, hq⟩ : ∃ q, x.procs[e.proc.toNat]? = some q := ⟨_, List.getElem?_eq_getElem (by omega)⟩
  have h0 : 0 ≤ e.proc := by omega
  have hal : q.alive = false := by
    unfold qlw at ha
    rw [if_pos ⟨.inl k1, h0⟩, hq] at ha
    cases h : q.alive with
    | false => rfl
    | true => simp [h] at ha
  simp only [qb9, k1, h0, h1, h2, hq, hal, List.getElem?_map, Option.map_some, Pr.r, qar, Nat.reduceLeDiff, Ev.qm, Ev.exec, Ev.qb, Ev.qe, Ev.qc, Ev.qaf, Ev.Opnd.ev, Ev.Env.get, Ev.Env.set, Ev.Env.unset, Ev.look, Ev.qn, Ev.qi, Ev.qab, Ev.qff, Ev.AV.cells, Ev.qv, Ev.AV.plain, Ev.qak, Ev.qbd, Ev.qo, Ev.qbz, Ev.ql, Ev.qw, Ev.qae, Ev.kill, Ev.qad, Ev.qd, Ev.qa4, Ev.qbn, Ev.qbc, Ev.qy, Ev.qj, Ev.qk, Ev.qac, Ev.qal, List.length_map, ↓Ev.qq, ↓reduceIte, List.length_cons, List.length_nil, List.getElem?_cons_zero, List.getElem?_cons_succ, List.take_succ_cons, List.take_zero, List.take_nil, List.drop_succ_cons, List.drop_zero, List.drop_nil, List.cons_append, List.nil_append, List.append_nil, List.set_cons_zero, List.set_cons_succ, List.head?_cons, Nat.reduceAdd, Nat.reduceEqDiff, Nat.reduceLeDiff, Int.reduceEq, reduceCtorEq, decide_false, Bool.and_self, Bool.not_false, Bool.false_eq_true, and_self, ne_eq, not_false_eq_true, not_true_eq_false, List.cons_ne_nil, Nat.zero_add, Nat.le_refl, eq_self]
theorem q8o (h : qvk c x e) {q : Pr} (ha : qlw x e = some q) :
    qbk (evL T) qgd [(.agg [(.fsl ((c.lps).map lpC) false), (.fsl ((c.progs).map qbu) false), (.v (.int .i64 (c.look))), (.v (.int .i64 (c.fin))), (.v (.int .i64 (c.cap)))]), (.agg [(.v (.int .i64 (x.r0))), (.v (.int .i64 (x.r1))), (.fsl ((x.procs).map Pr.r) false), (.v (.int .i64 (x.sum)))]), (.agg [(.v (.int .i64 (e.time))), (.fsl ((e.key).map qcp) false), (.v (.int .i64 (e.lp))), (.v (.int .i64 (e.kind))), (.v (.int .i64 (e.proc))), (.v (.int .i64 (e.arg)))])] = some (.tup [(.agg [(.v (.int .i64 ((q2b (qql c x e q)).r0))), (.v (.int .i64 ((q2b (qql c x e q)).r1))), (.fsl (((q2b (qql c x e q)).procs).map Pr.r) false), (.v (.int .i64 ((q2b (qql c x e q)).sum)))]), (.fsl (((qql c x e q).out).map Evt.r) false), (.fsl (((qql c x e q).gone).map qfe) false), (.v (.bool ((qql c x e q).over)))]) := by
  unfold qlw at ha
  split at ha
  case isFalse => cases ha
  rename_i hc
  obtain ⟨hkind, h0⟩ := hc
  obtain ⟨i, hi⟩ : ∃ i : Nat, e.proc = i := ⟨_, (Int.toNat_of_nonneg h0).symm⟩
  have hin : e.proc.toNat = i := by omega
  rw [hin, Option.bind_eq_some_iff] at ha
  obtain ⟨q', hq, ha⟩ := ha
  split at ha
  case isFalse => cases ha
  rename_i hal
  cases ha
  have hlt := (List.getElem?_eq_some_iff.1 hq).1
  obtain ⟨p1, p2, p3, p4, p5⟩ := h.proc q (List.mem_of_getElem? hq)
  obtain ⟨p, hp⟩ : ∃ p, c.progs[q.prog.toNat]? = some p := ⟨_, List.getElem?_eq_getElem (by omega)⟩
  obtain ⟨pl, pok⟩ := h.prog p (List.mem_of_getElem? hp)
  have hinv := qyv c x e h hi hq
  have hxp : ∃ q', ((qcx x e).setP i (qic e q)).procs[i]? = some q' ∧ q'.prog = q.prog := ⟨qic e q, by simp only [Ex.setP, qcx]; rw [List.getElem?_set_self hlt], qxm e q⟩
  have hact := quv c e i p q.prog h.key hi pl pok p1 hp ((qcx x e).setP i (qic e q)) hinv hxp
  have hrun : qql c x e q = qki p i 16 ((qcx x e).setP i (qic e q)) := by unfold qql; rw [hin, hp]; rfl
  rw [hrun]
  generalize qki p i 16 ((qcx x e).setP i (qic e q)) = F at hact
  have h1 : ¬ e.proc < 0 := by omega
  have h2 : ¬ e.proc ≥ (x.procs.length : Int) := by omega
  have h3 : ¬ e.kind = 3 := by omega
  rw [hi] at h0 h1 h2
  rw [qbk, qu qk9 qkp]
  rcases hkind with k1 | k2
  · have hwk : qic e q = q := by unfold qic; rw [if_neg (by omega)]
    have hss : x.procs.set i q = x.procs := by
      obtain ⟨hlt', hge⟩ := List.getElem?_eq_some_iff.1 hq
      rw [← hge, List.set_getElem_self]
    have k3 : ¬ (1 : Int) = 3 := by decide
    have k4 : ¬ (1 : Int) = 2 := by decide
    rw [hwk] at hact
    simp only [qcx, Ex.setP, hss, List.map_nil, hi, k1] at hact
    simp only [qb9, k1, k3, k4, h0, h1, h2, hi, hq, hal, hact, q2b, Int.toNat_natCast, List.getElem?_map, Option.map_some, Pr.r, qcg, qbh, qax, qar, qah, qb0, Nat.reduceLeDiff, Ev.qm, Ev.exec, Ev.qb, Ev.qe, Ev.qc, Ev.qa9, Ev.qaf, Ev.evs, Ev.Opnd.ev, Ev.Env.get, Ev.Env.set, Ev.Env.unset, Ev.look, Ev.qn, Ev.qi, Ev.qab, Ev.qff, Ev.AV.cells, Ev.qv, Ev.AV.plain, Ev.qak, Ev.qbd, Ev.qo, Ev.qbz, Ev.ql, Ev.qw, Ev.qae, Ev.kill, Ev.qad, Ev.qd, Ev.qa4, Ev.qbn, Ev.qbc, Ev.qy, Ev.qm0, Ev.AV.obj?, Ev.qj, Ev.qk, Ev.qac, Ev.qal, List.length_map, ↓Ev.qq, ↓reduceIte, List.length_cons, List.length_nil, List.getElem?_cons_zero, List.getElem?_cons_succ, List.take_succ_cons, List.take_zero, List.take_nil, List.drop_succ_cons, List.drop_zero, List.drop_nil, List.cons_append, List.nil_append, List.append_nil, List.set_cons_zero, List.set_cons_succ, List.head?_cons, Nat.reduceAdd, Nat.reduceEqDiff, Nat.reduceBEq, Nat.reduceLeDiff, reduceCtorEq, decide_false, Bool.and_self, Bool.not_true, Bool.not_false, Bool.false_eq_true, and_self, ne_eq, not_false_eq_true, not_true_eq_false, List.cons_ne_nil, Nat.zero_add, Nat.add_zero, Nat.le_refl, eq_self]
    done
  · have k1 : ¬ (2 : Int) = 1 := by decide
    have k3 : ¬ (2 : Int) = 3 := by decide
    have hkl := h.key
    have hwk : qic e q = { q with pc := e.arg, timer := if q.timer = e.key then [] else q.timer } := by unfold qic; rw [if_pos k2]
    obtain ⟨qp, qpc, qa, qt⟩ := q
    dsimp only at *
    subst hal
    have heq := qu7 qt e.key false false (by omega) (by omega)
    rw [hwk] at hact
    have hpt : ∀ q0 : Pr, qbk (evL T) qe4 [(.agg [(.v (.int .i64 ((qcx x e).r0))), (.v (.int .i64 ((qcx x e).r1))), (.fsl (((qcx x e).procs).map Pr.r) false), (.v (.int .i64 ((qcx x e).sum))), (.v (.int .i64 ((qcx x e).ev.time))), (.fsl (((qcx x e).ev.key).map qcp) false), (.v (.int .i64 ((qcx x e).ev.lp))), (.v (.int .i64 ((qcx x e).ev.kind))), (.v (.int .i64 ((qcx x e).ev.proc))), (.v (.int .i64 ((qcx x e).ev.arg))), (.fsl (((qcx x e).out).map Evt.r) false), (.fsl (((qcx x e).gone).map qfe) false), (.v (.int .i64 ((qcx x e).n))), (.v (.bool ((qcx x e).over)))]), (.v (.int .i64 (i))), (.agg [(.v (.int .i64 (q0.prog))), (.v (.int .i64 (q0.pc))), (.v (.bool (q0.alive))), (.fsl ((q0.timer).map qcp) false)])] = some (.agg [(.v (.int .i64 (((qcx x e).setP i q0).r0))), (.v (.int .i64 (((qcx x e).setP i q0).r1))), (.fsl ((((qcx x e).setP i q0).procs).map Pr.r) false), (.v (.int .i64 (((qcx x e).setP i q0).sum))), (.v (.int .i64 (((qcx x e).setP i q0).ev.time))), (.fsl ((((qcx x e).setP i q0).ev.key).map qcp) false), (.v (.int .i64 (((qcx x e).setP i q0).ev.lp))), (.v (.int .i64 (((qcx x e).setP i q0).ev.kind))), (.v (.int .i64 (((qcx x e).setP i q0).ev.proc))), (.v (.int .i64 (((qcx x e).setP i q0).ev.arg))), (.fsl ((((qcx x e).setP i q0).out).map Evt.r) false), (.fsl ((((qcx x e).setP i q0).gone).map qfe) false), (.v (.int .i64 (((qcx x e).setP i q0).n))), (.v (.bool (((qcx x e).setP i q0).over)))]) := fun q0 => qeh (qcx x e) (by show x.procs.length ≤ 1000; have := h.procs; omega) i hlt q0
    by_cases ht : qt = e.key
    · have hp2 := hpt ⟨qp, e.arg, true, []⟩
      simp only [ht, if_true] at hact
      simp only [ht, decide_true] at heq
      simp only [qcx, Ex.setP, List.map_nil, hi, k2] at hact hp2
      by_cases hz : e.key = []
      · have z0 : ¬ (0 : Int) > 0 := by decide
        have hl0 : (([] : List Int).length : Int) = 0 := rfl
        rw [hz] at ht
        simp only [hz, List.map_nil] at hact hp2
        simp only [qb9, k1, k2, k3, h0, h1, h2, hi, hq, hz, z0, hp2, ht, hact, List.map_nil, List.length_nil, q2b, Int.toNat_natCast, List.getElem?_map, Option.map_some, Pr.r, qcg, qbh, qar, qah, qb0, Nat.reduceLeDiff, Ev.qm, Ev.exec, Ev.qb, Ev.qe, Ev.qc, Ev.qa9, Ev.qaf, Ev.evs, Ev.Opnd.ev, Ev.Env.get, Ev.Env.set, Ev.Env.unset, Ev.look, Ev.qn, Ev.qi, Ev.qab, Ev.qff, Ev.AV.cells, Ev.AV.uc, Ev.qv, Ev.AV.plain, Ev.qak, Ev.qbd, Ev.qo, Ev.qau, Ev.qbz, Ev.ql, Ev.qw, Ev.qae, Ev.kill, Ev.qad, Ev.qd, Ev.qa4, Ev.qbn, Ev.qbc, Ev.qy, Ev.qm0, Ev.AV.obj?, Ev.qj, Ev.qk, Ev.qac, Ev.qal, List.length_map, ↓Ev.qq, ↓reduceIte, List.length_cons, List.length_nil, List.getElem?_cons_zero, List.getElem?_cons_succ, List.take_succ_cons, List.take_zero, List.take_nil, List.drop_succ_cons, List.drop_zero, List.drop_nil, List.cons_append, List.nil_append, List.append_nil, List.set_cons_zero, List.set_cons_succ, List.head?_cons, Nat.reduceAdd, Nat.reduceEqDiff, Nat.reduceBEq, Nat.reduceLeDiff, Int.cast_ofNat_Int, reduceCtorEq, decide_true, decide_false, Bool.and_self, Bool.not_true, Bool.not_false, Bool.false_eq_true, and_self, ne_eq, not_false_eq_true, not_true_eq_false, List.cons_ne_nil, Nat.zero_add, Nat.add_zero, Nat.le_refl, eq_self]
        done
      · have hz' : (e.key.length : Int) > 0 := by have := List.length_pos_iff.2 hz; omega
        simp only [qb9, k1, k2, k3, h0, h1, h2, hi, hq, hz', heq, hp2, ht, hact, q2b, Int.toNat_natCast, List.getElem?_map, Option.map_some, Pr.r, qcg, qbh, qax, qar, qah, qb0, Nat.reduceLeDiff, Ev.qm, Ev.exec, Ev.qb, Ev.qe, Ev.qc, Ev.qa9, Ev.qaf, Ev.evs, Ev.Opnd.ev, Ev.Env.get, Ev.Env.set, Ev.look, Ev.qn, Ev.qi, Ev.qab, Ev.qff, Ev.AV.cells, Ev.AV.uc, Ev.qv, Ev.AV.plain, Ev.qak, Ev.qbd, Ev.qo, Ev.qau, Ev.qbz, Ev.ql, Ev.qw, Ev.qae, Ev.kill, Ev.qad, Ev.qd, Ev.qa4, Ev.qbn, Ev.qbc, Ev.qy, Ev.qm0, Ev.AV.obj?, Ev.qj, Ev.qk, Ev.qac, Ev.qal, List.length_map, ↓Ev.qq, ↓reduceIte, List.length_cons, List.length_nil, List.getElem?_cons_zero, List.getElem?_cons_succ, List.take_succ_cons, List.take_zero, List.take_nil, List.drop_succ_cons, List.drop_zero, List.drop_nil, List.cons_append, List.nil_append, List.append_nil, List.set_cons_zero, List.set_cons_succ, List.head?_cons, Nat.reduceAdd, Nat.reduceEqDiff, Nat.reduceBEq, Nat.reduceLeDiff, reduceCtorEq, decide_true, decide_false, Bool.and_self, Bool.not_true, Bool.not_false, Bool.false_eq_true, and_self, ne_eq, not_false_eq_true, not_true_eq_false, List.cons_ne_nil, Nat.zero_add, Nat.add_zero, Nat.le_refl, eq_self]
        done
    · have hp2 := hpt ⟨qp, e.arg, true, qt⟩
      simp only [ht, if_false] at hact
      simp only [ht, decide_false] at heq
      simp only [qcx, Ex.setP, List.map_nil, hi, k2] at hact hp2
      by_cases hz : (qt.length : Int) > 0
      · simp only [qb9, k1, k2, k3, h0, h1, h2, hi, hq, hz, heq, hp2, hact, q2b, Int.toNat_natCast, List.getElem?_map, Option.map_some, Pr.r, qcg, qbh, qax, qar, qah, qb0, Nat.reduceLeDiff, Ev.qm, Ev.exec, Ev.qb, Ev.qe, Ev.qc, Ev.qa9, Ev.qaf, Ev.evs, Ev.Opnd.ev, Ev.Env.get, Ev.Env.set, Ev.look, Ev.qn, Ev.qi, Ev.qab, Ev.qff, Ev.AV.cells, Ev.AV.uc, Ev.qv, Ev.AV.plain, Ev.qak, Ev.qbd, Ev.qo, Ev.qau, Ev.qbz, Ev.ql, Ev.qw, Ev.qae, Ev.kill, Ev.qad, Ev.qd, Ev.qa4, Ev.qbn, Ev.qbc, Ev.qy, Ev.qm0, Ev.AV.obj?, Ev.qj, Ev.qk, Ev.qac, Ev.qal, List.length_map, ↓Ev.qq, ↓reduceIte, List.length_cons, List.length_nil, List.getElem?_cons_zero, List.getElem?_cons_succ, List.take_succ_cons, List.take_zero, List.take_nil, List.drop_succ_cons, List.drop_zero, List.drop_nil, List.cons_append, List.nil_append, List.append_nil, List.set_cons_zero, List.set_cons_succ, List.head?_cons, Nat.reduceAdd, Nat.reduceEqDiff, Nat.reduceBEq, Nat.reduceLeDiff, reduceCtorEq, decide_true, decide_false, Bool.and_self, Bool.not_true, Bool.not_false, Bool.false_eq_true, and_self, ne_eq, not_false_eq_true, not_true_eq_false, List.cons_ne_nil, Nat.zero_add, Nat.add_zero, Nat.le_refl, eq_self]
        done
      · simp only [qb9, k1, k2, k3, h0, h1, h2, hi, hq, hz, hp2, hact, q2b, Int.toNat_natCast, List.getElem?_map, Option.map_some, Pr.r, qcg, qbh, qax, qar, qah, qb0, Nat.reduceLeDiff, Ev.qm, Ev.exec, Ev.qb, Ev.qe, Ev.qc, Ev.qa9, Ev.qaf, Ev.evs, Ev.Opnd.ev, Ev.Env.get, Ev.Env.set, Ev.Env.unset, Ev.look, Ev.qn, Ev.qi, Ev.qab, Ev.qff, Ev.AV.cells, Ev.AV.uc, Ev.qv, Ev.AV.plain, Ev.qak, Ev.qbd, Ev.qo, Ev.qau, Ev.qbz, Ev.ql, Ev.qw, Ev.qae, Ev.kill, Ev.qad, Ev.qd, Ev.qa4, Ev.qbn, Ev.qbc, Ev.qy, Ev.qm0, Ev.AV.obj?, Ev.qj, Ev.qk, Ev.qac, Ev.qal, List.length_map, ↓Ev.qq, ↓reduceIte, List.length_cons, List.length_nil, List.getElem?_cons_zero, List.getElem?_cons_succ, List.take_succ_cons, List.take_zero, List.take_nil, List.drop_succ_cons, List.drop_zero, List.drop_nil, List.cons_append, List.nil_append, List.append_nil, List.set_cons_zero, List.set_cons_succ, List.head?_cons, Nat.reduceAdd, Nat.reduceEqDiff, Nat.reduceBEq, Nat.reduceLeDiff, reduceCtorEq, decide_true, decide_false, Bool.and_self, Bool.not_true, Bool.not_false, Bool.false_eq_true, and_self, ne_eq, not_false_eq_true, not_true_eq_false, List.cons_ne_nil, Nat.zero_add, Nat.add_zero, Nat.le_refl, eq_self]
        done
end
end Go.Proofs.Ythkjkdbjgpeigaa.K
