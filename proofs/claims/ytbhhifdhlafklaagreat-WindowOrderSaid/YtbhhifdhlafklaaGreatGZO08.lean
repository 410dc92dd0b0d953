/- For every input the statement of this claim returns true: texts of its proof, joined (part 9). -/
import Derived.Test.YtbhhifdhlafklaaGreatGZO06
import Derived.Test.YtbhhifdhlafklaaGreatGZO07
set_option linter.unusedSectionVars false
set_option linter.unusedSimpArgs false
set_option linter.unusedVariables false
namespace Go.Proofs.YtbhhifdhlafklaaGreat.K
open Go.Ev
set_option maxRecDepth 10000
theorem eq_table : eqBm qgj qgj = true := by
 have h : decide (eqBm qgj qgj = true) = true := by kernel_rfl
 exact of_decide_eq_true h
def Ex.ownE (x : Ex) (k p a : Int) : Evt := ⟨0, [], x.ev.lp, k, p, a⟩
def Ex.setP (x : Ex) (i : Nat) (q : Pr) : Ex := { x with procs := x.procs.set i q }
def Ex.stopE (x : Ex) (i : Nat) (q : Pr) : Ex := if 0 < q.timer.length then { x with gone := x.gone ++ [q.timer], procs := x.procs.set i { q with timer := [] } } else x
section
variable (a0 a1 a2 : Int) (am : Nat) (x : Ex) (gp gc gg : Nat) (op : OpI)
theorem hold_ev (h : x.Small) : (evL T).call qck [.ptr 5 0 0 0, (.agg [(ii op.code), (ii op.a), (ii op.b), (ii op.c)])] [.row 4 [[(ii a0), (ii a1), .sl 2 0 0 am false, (ii a2)]] 0, .row 4 [[(ii 0), (ii 0), .fsl [] false, (ii 0)]] 0, .row 4 ((x.procs).map Pr.r) gp, .row 6 ((x.out).map Evt.r) gc, .row 1 ((x.gone).map qfz) gg, .row 14 [[(ii x.r0), (ii x.r1), .sl 2 gp 0 x.procs.length false, (ii x.sum), (ii x.ev.time), (.fsl ((x.ev.key).map qb9) false), (ii x.ev.lp), (ii x.ev.kind), (ii x.ev.proc), (ii x.ev.arg), .sl 3 gc 0 x.out.length false, (ii x.n), .sl 4 gg 0 x.gone.length false, (bb x.over)]] 0, .mp .i64 qgj] = some ((ii 1), [.row 4 [[(ii a0), (ii a1), .sl 2 0 0 am false, (ii a2)]] 0, .row 4 [[(ii 0), (ii 0), .fsl [] false, (ii 0)]] 0, .row 4 (((x.create op.a (x.ownE 1 x.ev.proc 0)).procs).map Pr.r) gp, .row 6 (((x.create op.a (x.ownE 1 x.ev.proc 0)).out).map Evt.r) (qmx x op.a gc), .row 1 (((x.create op.a (x.ownE 1 x.ev.proc 0)).gone).map qfz) gg, .row 14 [[(ii ((x.create op.a (x.ownE 1 x.ev.proc 0)).r0)), (ii ((x.create op.a (x.ownE 1 x.ev.proc 0)).r1)), .sl 2 gp 0 (x.create op.a (x.ownE 1 x.ev.proc 0)).procs.length false, (ii ((x.create op.a (x.ownE 1 x.ev.proc 0)).sum)), (ii ((x.create op.a (x.ownE 1 x.ev.proc 0)).ev.time)), (.fsl (((x.create op.a (x.ownE 1 x.ev.proc 0)).ev.key).map qb9) false), (ii ((x.create op.a (x.ownE 1 x.ev.proc 0)).ev.lp)), (ii ((x.create op.a (x.ownE 1 x.ev.proc 0)).ev.kind)), (ii ((x.create op.a (x.ownE 1 x.ev.proc 0)).ev.proc)), (ii ((x.create op.a (x.ownE 1 x.ev.proc 0)).ev.arg)), .sl 3 (qmx x op.a gc) 0 (x.create op.a (x.ownE 1 x.ev.proc 0)).out.length false, (ii ((x.create op.a (x.ownE 1 x.ev.proc 0)).n)), .sl 4 gg 0 (x.create op.a (x.ownE 1 x.ev.proc 0)).gone.length false, (bb ((x.create op.a (x.ownE 1 x.ev.proc 0)).over))]] 0, .mp .i64 qgj]) := by
 have h1 := qabg a0 a1 a2 am x gp gc gg 1 x.ev.proc 0
 have h2 := qu8 a0 a1 a2 am x gp gc gg h op.a 0 x.ev.lp 1 x.ev.proc 0 []
 simp only [List.map_nil] at h2
 rw [qx qoj qnz]
 simp only [qgh, h1, h2, Ex.ownE, qag, qau, qv, qbs, Nat.reduceLT, qn, Ev.exec, qb, qe, qc, qd3, qai, Ev.evs, Ev.Opnd.ev, Ev.Env.get, Ev.Env.set, Ev.look, qo, qk, qae, Ev.AV.cells, qy, Ev.AV.plain, qm, qab, qaj, Ev.kill, qah, qd, Ev.SObj.lo, qa1, qu, qbn, qj, qh, qac, qao, ↓qs, ↓reduceIte, zga, zgb, zgd, zge, zgc, zfe, zgf, zgg, zgh, Nat.reduceAdd, Nat.reduceEqDiff, Nat.reduceLT, reduceCtorEq, zgv, zfc, zfa, zgx, ne_eq, zfb, zff, zfd, zgy]
theorem send_ev (h : x.Small) : (evL T).call qcj [.ptr 5 0 0 0, (.agg [(ii op.code), (ii op.a), (ii op.b), (ii op.c)])] [.row 4 [[(ii a0), (ii a1), .sl 2 0 0 am false, (ii a2)]] 0, .row 4 [[(ii 0), (ii 0), .fsl [] false, (ii 0)]] 0, .row 4 ((x.procs).map Pr.r) gp, .row 6 ((x.out).map Evt.r) gc, .row 1 ((x.gone).map qfz) gg, .row 14 [[(ii x.r0), (ii x.r1), .sl 2 gp 0 x.procs.length false, (ii x.sum), (ii x.ev.time), (.fsl ((x.ev.key).map qb9) false), (ii x.ev.lp), (ii x.ev.kind), (ii x.ev.proc), (ii x.ev.arg), .sl 3 gc 0 x.out.length false, (ii x.n), .sl 4 gg 0 x.gone.length false, (bb x.over)]] 0, .mp .i64 qgj] = some ((ii 0), [.row 4 [[(ii a0), (ii a1), .sl 2 0 0 am false, (ii a2)]] 0, .row 4 [[(ii 0), (ii 0), .fsl [] false, (ii 0)]] 0, .row 4 (((x.create op.c ⟨0, [], op.a, 3, 0, op.b⟩).procs).map Pr.r) gp, .row 6 (((x.create op.c ⟨0, [], op.a, 3, 0, op.b⟩).out).map Evt.r) (qmx x op.c gc), .row 1 (((x.create op.c ⟨0, [], op.a, 3, 0, op.b⟩).gone).map qfz) gg, .row 14 [[(ii ((x.create op.c ⟨0, [], op.a, 3, 0, op.b⟩).r0)), (ii ((x.create op.c ⟨0, [], op.a, 3, 0, op.b⟩).r1)), .sl 2 gp 0 (x.create op.c ⟨0, [], op.a, 3, 0, op.b⟩).procs.length false, (ii ((x.create op.c ⟨0, [], op.a, 3, 0, op.b⟩).sum)), (ii ((x.create op.c ⟨0, [], op.a, 3, 0, op.b⟩).ev.time)), (.fsl (((x.create op.c ⟨0, [], op.a, 3, 0, op.b⟩).ev.key).map qb9) false), (ii ((x.create op.c ⟨0, [], op.a, 3, 0, op.b⟩).ev.lp)), (ii ((x.create op.c ⟨0, [], op.a, 3, 0, op.b⟩).ev.kind)), (ii ((x.create op.c ⟨0, [], op.a, 3, 0, op.b⟩).ev.proc)), (ii ((x.create op.c ⟨0, [], op.a, 3, 0, op.b⟩).ev.arg)), .sl 3 (qmx x op.c gc) 0 (x.create op.c ⟨0, [], op.a, 3, 0, op.b⟩).out.length false, (ii ((x.create op.c ⟨0, [], op.a, 3, 0, op.b⟩).n)), .sl 4 gg 0 (x.create op.c ⟨0, [], op.a, 3, 0, op.b⟩).gone.length false, (bb ((x.create op.c ⟨0, [], op.a, 3, 0, op.b⟩).over))]] 0, .mp .i64 qgj]) := by
 have h2 := qu8 a0 a1 a2 am x gp gc gg h op.c 0 op.a 3 0 op.b []
 simp only [List.map_nil] at h2
 rw [qx qoh qn1]
 simp only [qgc, h2, qag, qau, qv, qbs, Nat.reduceLT, Nat.reduceLeDiff, qn, Ev.exec, qb, qe, qc, qd3, qai, Ev.evs, Ev.Opnd.ev, Ev.Env.get, Ev.Env.set, Ev.look, qo, qk, qae, qg6, Ev.AV.cells, Ev.AV.uc, qy, Ev.AV.plain, qm, qab, qaj, Ev.kill, qah, qd, Ev.SObj.lo, qa1, qu, qbn, qj, qh, qac, qao, ↓qs, ↓reduceIte, zga, zgb, zgc, zgo, zfe, zgf, zgg, List.drop_nil, zgm, zgl, zgn, zgh, Nat.reduceAdd, Nat.reduceEqDiff, Nat.reduceLT, Nat.reduceLeDiff, reduceCtorEq, zgv, zfc, zfa, zgx, ne_eq, zfb, zff, zfd, Nat.le_refl, zgy]
theorem end_ev : (evL T).call qcu [.ptr 5 0 0 0, (.agg [(ii op.code), (ii op.a), (ii op.b), (ii op.c)])] [.row 4 [[(ii a0), (ii a1), .sl 2 0 0 am false, (ii a2)]] 0, .row 4 [[(ii 0), (ii 0), .fsl [] false, (ii 0)]] 0, .row 4 ((x.procs).map Pr.r) gp, .row 6 ((x.out).map Evt.r) gc, .row 1 ((x.gone).map qfz) gg, .row 14 [[(ii x.r0), (ii x.r1), .sl 2 gp 0 x.procs.length false, (ii x.sum), (ii x.ev.time), (.fsl ((x.ev.key).map qb9) false), (ii x.ev.lp), (ii x.ev.kind), (ii x.ev.proc), (ii x.ev.arg), .sl 3 gc 0 x.out.length false, (ii x.n), .sl 4 gg 0 x.gone.length false, (bb x.over)]] 0, .mp .i64 qgj] = some ((ii 2), [.row 4 [[(ii a0), (ii a1), .sl 2 0 0 am false, (ii a2)]] 0, .row 4 [[(ii 0), (ii 0), .fsl [] false, (ii 0)]] 0, .row 4 ((x.procs).map Pr.r) gp, .row 6 ((x.out).map Evt.r) gc, .row 1 ((x.gone).map qfz) gg, .row 14 [[(ii x.r0), (ii x.r1), .sl 2 gp 0 x.procs.length false, (ii x.sum), (ii x.ev.time), (.fsl ((x.ev.key).map qb9) false), (ii x.ev.lp), (ii x.ev.kind), (ii x.ev.proc), (ii x.ev.arg), .sl 3 gc 0 x.out.length false, (ii x.n), .sl 4 gg 0 x.gone.length false, (bb x.over)]] 0, .mp .i64 qgj]) := by
 rw [qx qpl qog]
 simp only [qgv, qag, qau, qv, qbs, Nat.reduceLT, qn, Ev.exec, qb, qe, qc, qai, Ev.Opnd.ev, Ev.Env.get, Ev.Env.set, Ev.look, qo, Ev.AV.cells, qy, Ev.AV.plain, qm, qab, qaj, Ev.kill, qah, qd, Ev.SObj.lo, qa1, qu, qbn, qj, qh, qac, qao, ↓qs, ↓reduceIte, zga, zgb, zgc, zfe, Nat.reduceAdd, Nat.reduceLT, reduceCtorEq, zgv, zfc, zgx, ne_eq, zfb, zff, zfd, zgy]
def Ex.reg (x : Ex) (k : Int) : Int := if k = 0 then x.r0 else x.r1
def Ex.setReg (x : Ex) (k v : Int) : Ex := if k = 0 then { x with r0 := v } else { x with r1 := v }
theorem add_ev (ha : op.a = 0 ∨ op.a = 1) : (evL T).call qct [.ptr 5 0 0 0, (.agg [(ii op.code), (ii op.a), (ii op.b), (ii op.c)])] [.row 4 [[(ii a0), (ii a1), .sl 2 0 0 am false, (ii a2)]] 0, .row 4 [[(ii 0), (ii 0), .fsl [] false, (ii 0)]] 0, .row 4 ((x.procs).map Pr.r) gp, .row 6 ((x.out).map Evt.r) gc, .row 1 ((x.gone).map qfz) gg, .row 14 [[(ii x.r0), (ii x.r1), .sl 2 gp 0 x.procs.length false, (ii x.sum), (ii x.ev.time), (.fsl ((x.ev.key).map qb9) false), (ii x.ev.lp), (ii x.ev.kind), (ii x.ev.proc), (ii x.ev.arg), .sl 3 gc 0 x.out.length false, (ii x.n), .sl 4 gg 0 x.gone.length false, (bb x.over)]] 0, .mp .i64 qgj] = some ((ii 0), [.row 4 [[(ii a0), (ii a1), .sl 2 0 0 am false, (ii a2)]] 0, .row 4 [[(ii 0), (ii 0), .fsl [] false, (ii 0)]] 0, .row 4 (((x.setReg op.a (w64 (x.reg op.a + op.b))).procs).map Pr.r) gp, .row 6 (((x.setReg op.a (w64 (x.reg op.a + op.b))).out).map Evt.r) gc, .row 1 (((x.setReg op.a (w64 (x.reg op.a + op.b))).gone).map qfz) gg, .row 14 [[(ii ((x.setReg op.a (w64 (x.reg op.a + op.b))).r0)), (ii ((x.setReg op.a (w64 (x.reg op.a + op.b))).r1)), .sl 2 gp 0 (x.setReg op.a (w64 (x.reg op.a + op.b))).procs.length false, (ii ((x.setReg op.a (w64 (x.reg op.a + op.b))).sum)), (ii ((x.setReg op.a (w64 (x.reg op.a + op.b))).ev.time)), (.fsl (((x.setReg op.a (w64 (x.reg op.a + op.b))).ev.key).map qb9) false), (ii ((x.setReg op.a (w64 (x.reg op.a + op.b))).ev.lp)), (ii ((x.setReg op.a (w64 (x.reg op.a + op.b))).ev.kind)), (ii ((x.setReg op.a (w64 (x.reg op.a + op.b))).ev.proc)), (ii ((x.setReg op.a (w64 (x.reg op.a + op.b))).ev.arg)), .sl 3 gc 0 (x.setReg op.a (w64 (x.reg op.a + op.b))).out.length false, (ii ((x.setReg op.a (w64 (x.reg op.a + op.b))).n)), .sl 4 gg 0 (x.setReg op.a (w64 (x.reg op.a + op.b))).gone.length false, (bb ((x.setReg op.a (w64 (x.reg op.a + op.b))).over))]] 0, .mp .i64 qgj]) := by
 rw [qx qo2 qon]
 rcases ha with ha | ha
 ·simp only [qfa, ha, Ex.setReg, Ex.reg, qag, qau, qv, qbs, Nat.reduceLT, Nat.reduceLeDiff, qn, Ev.exec, qb, qe, qc, qai, Ev.Opnd.ev, Ev.Env.get, Ev.Env.set, Ev.look, qo, qk, qae, Ev.AV.cells, Ev.AV.uc, qy, Ev.AV.plain, qaf, qm, qab, qaj, Ev.kill, qah, qd, Ev.SObj.lo, qa1, qu, qbn, qj, qh, qac, qao, ↓qs, ↓reduceIte, zga, zgb, zgd, zge, zgc, zgo, zfe, zgf, zgg, zgm, zgl, zgj, zgk, zgh, Nat.reduceAdd, Nat.reduceEqDiff, Nat.reduceMul, Nat.reduceLT, Nat.reduceLeDiff, Int.reduceLE, Int.reduceToNat, reduceCtorEq, zgv, zfc, zfa, zgx, ne_eq, zfb, zff, zfd, Nat.add_zero, zgy]
 ·simp only [qfa, ha, Ex.setReg, Ex.reg, qag, qau, qv, qbs, Nat.reduceLT, Nat.reduceLeDiff, qn, Ev.exec, qb, qe, qc, qai, Ev.Opnd.ev, Ev.Env.get, Ev.Env.set, Ev.look, qo, qk, qae, Ev.AV.cells, Ev.AV.uc, qy, Ev.AV.plain, qaf, qm, qab, qaj, Ev.kill, qah, qd, Ev.SObj.lo, qa1, qu, qbn, qj, qh, qac, qao, ↓qs, ↓reduceIte, zga, zgb, zgd, zge, zgc, zgo, zfe, zgf, zgg, zgm, zgl, zgj, zgk, zgh, Nat.reduceAdd, Nat.reduceEqDiff, Nat.reduceMul, Nat.reduceLT, Nat.reduceLeDiff, Int.reduceLE, Int.reduceToNat, Int.reduceEq, reduceCtorEq, zgv, zfc, zfa, zgx, ne_eq, zfb, zff, zfd, Nat.add_zero, zgu, zgy]
section
variable (i : Nat) (q : Pr) (hi : x.ev.proc = i) (hq : x.procs[i]? = some q)
include hi hq
theorem less_ev (ha : op.a = 0 ∨ op.a = 1) : (evL T).call qcn [.ptr 5 0 0 0, (.agg [(ii op.code), (ii op.a), (ii op.b), (ii op.c)])] [.row 4 [[(ii a0), (ii a1), .sl 2 0 0 am false, (ii a2)]] 0, .row 4 [[(ii 0), (ii 0), .fsl [] false, (ii 0)]] 0, .row 4 ((x.procs).map Pr.r) gp, .row 6 ((x.out).map Evt.r) gc, .row 1 ((x.gone).map qfz) gg, .row 14 [[(ii x.r0), (ii x.r1), .sl 2 gp 0 x.procs.length false, (ii x.sum), (ii x.ev.time), (.fsl ((x.ev.key).map qb9) false), (ii x.ev.lp), (ii x.ev.kind), (ii x.ev.proc), (ii x.ev.arg), .sl 3 gc 0 x.out.length false, (ii x.n), .sl 4 gg 0 x.gone.length false, (bb x.over)]] 0, .mp .i64 qgj] = some ((ii 0), [.row 4 [[(ii a0), (ii a1), .sl 2 0 0 am false, (ii a2)]] 0, .row 4 [[(ii 0), (ii 0), .fsl [] false, (ii 0)]] 0, .row 4 (((if x.reg op.a < op.b then x.setP i { q with pc := op.c } else x).procs).map Pr.r) gp, .row 6 (((if x.reg op.a < op.b then x.setP i { q with pc := op.c } else x).out).map Evt.r) gc, .row 1 (((if x.reg op.a < op.b then x.setP i { q with pc := op.c } else x).gone).map qfz) gg, .row 14 [[(ii ((if x.reg op.a < op.b then x.setP i { q with pc := op.c } else x).r0)), (ii ((if x.reg op.a < op.b then x.setP i { q with pc := op.c } else x).r1)), .sl 2 gp 0 (if x.reg op.a < op.b then x.setP i { q with pc := op.c } else x).procs.length false, (ii ((if x.reg op.a < op.b then x.setP i { q with pc := op.c } else x).sum)), (ii ((if x.reg op.a < op.b then x.setP i { q with pc := op.c } else x).ev.time)), (.fsl (((if x.reg op.a < op.b then x.setP i { q with pc := op.c } else x).ev.key).map qb9) false), (ii ((if x.reg op.a < op.b then x.setP i { q with pc := op.c } else x).ev.lp)), (ii ((if x.reg op.a < op.b then x.setP i { q with pc := op.c } else x).ev.kind)), (ii ((if x.reg op.a < op.b then x.setP i { q with pc := op.c } else x).ev.proc)), (ii ((if x.reg op.a < op.b then x.setP i { q with pc := op.c } else x).ev.arg)), .sl 3 gc 0 (if x.reg op.a < op.b then x.setP i { q with pc := op.c } else x).out.length false, (ii ((if x.reg op.a < op.b then x.setP i { q with pc := op.c } else x).n)), .sl 4 gg 0 (if x.reg op.a < op.b then x.setP i { q with pc := op.c } else x).gone.length false, (bb ((if x.reg op.a < op.b then x.setP i { q with pc := op.c } else x).over))]] 0, .mp .i64 qgj]) := by
 have hp := (List.getElem?_eq_some_iff.1 hq).1
 have h1 := qsc a0 a1 a2 am x gp gc gg i hi hp
 have hset : (x.procs.map Pr.r).set i [(ii q.prog), (ii op.c), (bb q.alive), (.fsl ((q.timer).map qb9) false)] = (x.procs.set i { q with pc := op.c }).map Pr.r := by rw [List.map_set]; rfl
 have hl : (x.procs.set i { q with pc := op.c }).length = x.procs.length := by simp
 rw [qx qoo qn6]
 unfold Ex.reg
 rcases ha with ha | ha
 ·by_cases hlt : x.r0 < op.b
  ·simp only [qdh, ha, hlt, Ex.setP, h1, hl, zgq, zgt, hq, Pr.r, qag, qau, qv, qbs, Nat.reduceLT, Nat.reduceLeDiff, qn, Ev.exec, qb, qe, qc, qd3, qai, Ev.evs, Ev.Opnd.ev, Ev.Env.get, Ev.Env.set, Ev.look, qo, qk, qae, Ev.AV.cells, Ev.AV.uc, qy, Ev.AV.plain, ql, qm, qab, qaj, Ev.kill, qah, qd, Ev.SObj.lo, qa1, qu, qbn, qj, qh, qac, qao, ↓qs, ↓reduceIte, zga, zgb, zgd, zge, zgc, zgo, zfe, zgf, zgg, zgm, zgl, zgj, zgk, zgh, Nat.reduceAdd, Nat.reduceEqDiff, Nat.reduceMul, Nat.reduceLT, Nat.reduceLeDiff, Int.reduceLE, Int.reduceToNat, reduceCtorEq, zgv, zfc, zfa, zgx, ne_eq, zfb, zff, zfd, Nat.add_zero, zgy, hset]
  ·simp only [qdh, ha, hlt, qag, qau, qv, qbs, Nat.reduceLT, qn, Ev.exec, qb, qe, qc, qai, Ev.Opnd.ev, Ev.Env.get, Ev.Env.set, Ev.look, qo, qk, qae, Ev.AV.cells, qy, Ev.AV.plain, ql, qm, qab, qaj, Ev.kill, qah, qd, Ev.SObj.lo, qa1, qu, qbn, qj, qh, qac, qao, ↓qs, ↓reduceIte, zga, zgb, zgd, zge, zgc, zfe, zgf, zgg, zgh, Nat.reduceAdd, Nat.reduceEqDiff, Nat.reduceMul, Nat.reduceLT, Int.reduceLE, Int.reduceToNat, reduceCtorEq, zgv, zgw, zfc, zfa, zgx, ne_eq, zfb, zff, zfd, Nat.add_zero, zgy]
 ·have h01 : ¬ (1 : Int) = 0 := by decide
  by_cases hlt : x.r1 < op.b
  ·simp only [qdh, ha, h01, hlt, Ex.setP, h1, hl, zgq, zgt, hq, Pr.r, qag, qau, qv, qbs, Nat.reduceLT, Nat.reduceLeDiff, qn, Ev.exec, qb, qe, qc, qd3, qai, Ev.evs, Ev.Opnd.ev, Ev.Env.get, Ev.Env.set, Ev.look, qo, qk, qae, Ev.AV.cells, Ev.AV.uc, qy, Ev.AV.plain, ql, qm, qab, qaj, Ev.kill, qah, qd, Ev.SObj.lo, qa1, qu, qbn, qj, qh, qac, qao, ↓qs, ↓reduceIte, zga, zgb, zgd, zge, zgc, zgo, zfe, zgf, zgg, zgm, zgl, zgj, zgk, zgh, Nat.reduceAdd, Nat.reduceEqDiff, Nat.reduceMul, Nat.reduceLT, Nat.reduceLeDiff, Int.reduceLE, Int.reduceToNat, reduceCtorEq, zgv, zfc, zfa, zgx, ne_eq, zfb, zff, zfd, Nat.add_zero, zgu, zgy, hset]
  ·simp only [qdh, ha, h01, hlt, qag, qau, qv, qbs, Nat.reduceLT, qn, Ev.exec, qb, qe, qc, qai, Ev.Opnd.ev, Ev.Env.get, Ev.Env.set, Ev.look, qo, qk, qae, Ev.AV.cells, qy, Ev.AV.plain, ql, qm, qab, qaj, Ev.kill, qah, qd, Ev.SObj.lo, qa1, qu, qbn, qj, qh, qac, qao, ↓qs, ↓reduceIte, zga, zgb, zgd, zge, zgc, zfe, zgf, zgg, zgh, Nat.reduceAdd, Nat.reduceEqDiff, Nat.reduceMul, Nat.reduceLT, Int.reduceLE, Int.reduceToNat, reduceCtorEq, zgv, zgw, zfc, zfa, zgx, ne_eq, zfb, zff, zfd, Nat.add_zero, zgu, zgy]
theorem qaaf (h : x.Small) : (evL T).call qb7 [.ptr 5 0 0 0, (.agg [(ii op.code), (ii op.a), (ii op.b), (ii op.c)])] [.row 4 [[(ii a0), (ii a1), .sl 2 0 0 am false, (ii a2)]] 0, .row 4 [[(ii 0), (ii 0), .fsl [] false, (ii 0)]] 0, .row 4 ((x.procs).map Pr.r) gp, .row 6 ((x.out).map Evt.r) gc, .row 1 ((x.gone).map qfz) gg, .row 14 [[(ii x.r0), (ii x.r1), .sl 2 gp 0 x.procs.length false, (ii x.sum), (ii x.ev.time), (.fsl ((x.ev.key).map qb9) false), (ii x.ev.lp), (ii x.ev.kind), (ii x.ev.proc), (ii x.ev.arg), .sl 3 gc 0 x.out.length false, (ii x.n), .sl 4 gg 0 x.gone.length false, (bb x.over)]] 0, .mp .i64 qgj] = some ((ii 0), [.row 4 [[(ii a0), (ii a1), .sl 2 0 0 am false, (ii a2)]] 0, .row 4 [[(ii 0), (ii 0), .fsl [] false, (ii 0)]] 0, .row 4 (((x.stopE i q).procs).map Pr.r) gp, .row 6 (((x.stopE i q).out).map Evt.r) gc, .row 1 (((x.stopE i q).gone).map qfz) (if 0 < q.timer.length then gg + 1 else gg), .row 14 [[(ii ((x.stopE i q).r0)), (ii ((x.stopE i q).r1)), .sl 2 gp 0 (x.stopE i q).procs.length false, (ii ((x.stopE i q).sum)), (ii ((x.stopE i q).ev.time)), (.fsl (((x.stopE i q).ev.key).map qb9) false), (ii ((x.stopE i q).ev.lp)), (ii ((x.stopE i q).ev.kind)), (ii ((x.stopE i q).ev.proc)), (ii ((x.stopE i q).ev.arg)), .sl 3 gc 0 (x.stopE i q).out.length false, (ii ((x.stopE i q).n)), .sl 4 (if 0 < q.timer.length then gg + 1 else gg) 0 (x.stopE i q).gone.length false, (bb ((x.stopE i q).over))]] 0, .mp .i64 qgj]) := by
 have hp := (List.getElem?_eq_some_iff.1 hq).1
 have h1 := qsc a0 a1 a2 am x gp gc gg i hi hp
 have hset : (x.procs.map Pr.r).set i [(ii q.prog), (ii q.pc), (bb q.alive), .fsl [] false] = (x.procs.set i { q with timer := [] }).map Pr.r := by rw [List.map_set]; rfl
 have hl : (x.procs.set i { q with timer := [] }).length = x.procs.length := by simp
 have hs : (x.gone.length + 1) * 24 ≤ 140737488355328 := by have := h.gone; omega
 have htl : List.take x.gone.length (x.gone.map qfz) = x.gone.map qfz := List.take_of_length_le (by simp)
 have hr : ∀ e : List Int, (x.gone ++ [e]).map qfz = x.gone.map qfz ++ [qfz e] := fun e => by rw [List.map_append]; rfl
 rw [qx qoc qn8]
 unfold Ex.stopE
 by_cases ht : 0 < q.timer.length
 ·have ht' : (q.timer.length : Int) > 0 := by omega
  simp only [qe1, ht, ht', h1, hl, hs, htl, hr, qj8, qfz, zgq, zgt, hq, Pr.r, qag, qau, qv, qbs, Nat.reduceLT, Nat.reduceLeDiff, qn, Ev.exec, qb, qe, qc, qd3, qai, qn9, Ev.evs, Ev.Opnd.ev, Ev.Env.get, Ev.Env.set, Ev.look, qo, qk, qb0, qae, qf6, Ev.AV.cells, Ev.AV.uc, qy, Ev.AV.plain, qas, qm, qab, qaj, Ev.kill, qah, qd, Ev.SObj.lo, qa1, qu, qbn, qj, qh, qac, qao, qbl, qa9, List.replicate_one, zgi, ↓qs, ↓reduceIte, zga, zgb, zgp, zgd, zge, zgc, zgo, zfe, zgf, zgg, List.drop_nil, zgm, zgl, zgn, zgj, zgk, zgh, Nat.reduceAdd, Nat.reduceEqDiff, Nat.reduceMul, Nat.reduceLT, Nat.reduceLeDiff, Nat.reducePow, reduceCtorEq, zgv, zfc, zfa, zgx, ne_eq, zfb, zff, zfd, zgu, Nat.le_refl, zgy, hset]
 ·have ht' : ¬ (q.timer.length : Int) > 0 := by omega
  simp only [qe1, ht, ht', h1, zgq, zgt, hq, Pr.r, qag, qau, qv, qbs, Nat.reduceLT, qn, Ev.exec, qb, qe, qc, qd3, qai, Ev.evs, Ev.Opnd.ev, Ev.Env.get, Ev.Env.set, Ev.look, qo, qk, qae, Ev.AV.cells, qy, Ev.AV.plain, qas, qm, qab, qaj, Ev.kill, qah, qd, Ev.SObj.lo, qa1, qu, qbn, qj, qh, qac, qao, zgi, ↓qs, ↓reduceIte, zga, zgb, zgd, zge, zgc, zfe, zgf, zgg, zgh, Nat.reduceAdd, Nat.reduceLT, reduceCtorEq, zgv, zgw, zfc, zfa, zgx, ne_eq, zfb, zff, zfd, zgy]
def Ex.spawnE (x : Ex) (op : OpI) : Ex := if x.procs.length < 8 then ({ x with procs := x.procs ++ [⟨op.a, 0, true, []⟩] } : Ex).create op.b (x.ownE 1 x.procs.length 0) else x
omit hi hq in
theorem spawn_ev (h : x.Small) : ∃ gp' gc', (evL T).call qcg [.ptr 5 0 0 0, (.agg [(ii op.code), (ii op.a), (ii op.b), (ii op.c)])] [.row 4 [[(ii a0), (ii a1), .sl 2 0 0 am false, (ii a2)]] 0, .row 4 [[(ii 0), (ii 0), .fsl [] false, (ii 0)]] 0, .row 4 ((x.procs).map Pr.r) gp, .row 6 ((x.out).map Evt.r) gc, .row 1 ((x.gone).map qfz) gg, .row 14 [[(ii x.r0), (ii x.r1), .sl 2 gp 0 x.procs.length false, (ii x.sum), (ii x.ev.time), (.fsl ((x.ev.key).map qb9) false), (ii x.ev.lp), (ii x.ev.kind), (ii x.ev.proc), (ii x.ev.arg), .sl 3 gc 0 x.out.length false, (ii x.n), .sl 4 gg 0 x.gone.length false, (bb x.over)]] 0, .mp .i64 qgj] = some ((ii 0), [.row 4 [[(ii a0), (ii a1), .sl 2 0 0 am false, (ii a2)]] 0, .row 4 [[(ii 0), (ii 0), .fsl [] false, (ii 0)]] 0, .row 4 (((x.spawnE op).procs).map Pr.r) gp', .row 6 (((x.spawnE op).out).map Evt.r) gc', .row 1 (((x.spawnE op).gone).map qfz) gg, .row 14 [[(ii ((x.spawnE op).r0)), (ii ((x.spawnE op).r1)), .sl 2 gp' 0 (x.spawnE op).procs.length false, (ii ((x.spawnE op).sum)), (ii ((x.spawnE op).ev.time)), (.fsl (((x.spawnE op).ev.key).map qb9) false), (ii ((x.spawnE op).ev.lp)), (ii ((x.spawnE op).ev.kind)), (ii ((x.spawnE op).ev.proc)), (ii ((x.spawnE op).ev.arg)), .sl 3 gc' 0 (x.spawnE op).out.length false, (ii ((x.spawnE op).n)), .sl 4 gg 0 (x.spawnE op).gone.length false, (bb ((x.spawnE op).over))]] 0, .mp .i64 qgj]) := by
 rw [qx qnw qm8]
 unfold Ex.spawnE
 by_cases h8 : x.procs.length < 8
 ·have h8' : (x.procs.length : Int) < 8 := by omega
  have hs : (x.procs.length + 1) * 48 ≤ 140737488355328 := by omega
  have htl : List.take x.procs.length (x.procs.map Pr.r) = x.procs.map Pr.r := List.take_of_length_le (by simp)
  have hr : ∀ e : Pr, (x.procs ++ [e]).map Pr.r = x.procs.map Pr.r ++ [e.r] := fun e => by rw [List.map_append]; rfl
  have hl : ∀ e : Pr, (x.procs ++ [e]).length = x.procs.length + 1 := fun e => by simp
  have hsm : ({ x with procs := x.procs ++ [⟨op.a, 0, true, []⟩] } : Ex).Small := ⟨by simp; omega, h.out, h.gone, h.key⟩
  have h1 := qabg a0 a1 a2 am { x with procs := x.procs ++ [⟨op.a, 0, true, []⟩] } (gp + 1) gc gg 1 x.procs.length 0
  have h2 := qu8 a0 a1 a2 am { x with procs := x.procs ++ [⟨op.a, 0, true, []⟩] } (gp + 1) gc gg hsm op.b 0 x.ev.lp 1 x.procs.length 0 []
  refine ⟨gp + 1, qmx { x with procs := x.procs ++ [⟨op.a, 0, true, []⟩] } op.b gc, ?_⟩
  simp only [hr, hl, Pr.r, List.map_nil] at h1 h2
  simp only [qel, h8, h8', h1, h2, hs, htl, Ex.ownE, qag, qau, qv, qbs, Nat.reduceLT, Nat.reduceLeDiff, qn, Ev.exec, qb, qe, qc, qd3, qai, qn9, Ev.evs, Ev.Opnd.ev, Ev.Env.get, Ev.Env.set, Ev.look, qo, qk, qb0, qae, qg6, qf6, Ev.AV.cells, Ev.AV.uc, qy, Ev.AV.plain, ql, qm, qab, qaj, Ev.kill, qah, qd, Ev.SObj.lo, qa1, qu, qbn, qj, qh, qac, qao, qbl, qa9, List.replicate_one, zgi, ↓qs, ↓reduceIte, zga, zgb, zgd, zge, zgc, zgo, zfe, zgf, zgg, zgm, zgl, zgj, zgk, zgh, Nat.reduceAdd, Nat.reduceEqDiff, Nat.reduceMul, Nat.reduceLT, Nat.reduceLeDiff, Nat.reducePow, reduceCtorEq, zgv, zfc, zfa, zgx, ne_eq, zfb, zff, zfd, Nat.add_zero, zgu, Nat.le_refl, zgy]
 ·have h8' : ¬ (x.procs.length : Int) < 8 := by omega
  refine ⟨gp, gc, ?_⟩
  simp only [qel, h8, h8', qag, qau, qv, qbs, Nat.reduceLT, qn, Ev.exec, qb, qe, qc, qai, Ev.Opnd.ev, Ev.Env.get, Ev.Env.set, Ev.look, qo, qk, qae, Ev.AV.cells, qy, Ev.AV.plain, ql, qm, qab, qaj, Ev.kill, qah, qd, Ev.SObj.lo, qa1, qu, qbn, qj, qh, qac, qao, ↓qs, ↓reduceIte, zga, zgb, zgd, zge, zgc, zfe, zgf, zgg, zgh, Nat.reduceAdd, Nat.reduceLT, reduceCtorEq, zgv, zgw, zfc, zfa, zgx, ne_eq, zfb, zff, zfd, Nat.add_zero, zgy]
def Ex.timerE (x : Ex) (i : Nat) (q : Pr) (op : OpI) : Ex := ((x.stopE i q).create op.a (x.ownE 2 x.ev.proc op.b)).setP i { q with timer := (x.stopE i q).kid }
theorem timer_ev (h : x.Small) (hg : x.gone.length < 1000) : ∃ gc' gg', (evL T).call qcf [.ptr 5 0 0 0, (.agg [(ii op.code), (ii op.a), (ii op.b), (ii op.c)])] [.row 4 [[(ii a0), (ii a1), .sl 2 0 0 am false, (ii a2)]] 0, .row 4 [[(ii 0), (ii 0), .fsl [] false, (ii 0)]] 0, .row 4 ((x.procs).map Pr.r) gp, .row 6 ((x.out).map Evt.r) gc, .row 1 ((x.gone).map qfz) gg, .row 14 [[(ii x.r0), (ii x.r1), .sl 2 gp 0 x.procs.length false, (ii x.sum), (ii x.ev.time), (.fsl ((x.ev.key).map qb9) false), (ii x.ev.lp), (ii x.ev.kind), (ii x.ev.proc), (ii x.ev.arg), .sl 3 gc 0 x.out.length false, (ii x.n), .sl 4 gg 0 x.gone.length false, (bb x.over)]] 0, .mp .i64 qgj] = some ((ii 0), [.row 4 [[(ii a0), (ii a1), .sl 2 0 0 am false, (ii a2)]] 0, .row 4 [[(ii 0), (ii 0), .fsl [] false, (ii 0)]] 0, .row 4 (((x.timerE i q op).procs).map Pr.r) gp, .row 6 (((x.timerE i q op).out).map Evt.r) gc', .row 1 (((x.timerE i q op).gone).map qfz) gg', .row 14 [[(ii ((x.timerE i q op).r0)), (ii ((x.timerE i q op).r1)), .sl 2 gp 0 (x.timerE i q op).procs.length false, (ii ((x.timerE i q op).sum)), (ii ((x.timerE i q op).ev.time)), (.fsl (((x.timerE i q op).ev.key).map qb9) false), (ii ((x.timerE i q op).ev.lp)), (ii ((x.timerE i q op).ev.kind)), (ii ((x.timerE i q op).ev.proc)), (ii ((x.timerE i q op).ev.arg)), .sl 3 gc' 0 (x.timerE i q op).out.length false, (ii ((x.timerE i q op).n)), .sl 4 gg' 0 (x.timerE i q op).gone.length false, (bb ((x.timerE i q op).over))]] 0, .mp .i64 qgj]) := by
 have h0 := qaaf a0 a1 a2 am x gp gc gg op i q hi hq h
 have hev : (x.stopE i q).ev = x.ev := by unfold Ex.stopE; split <;> rfl
 have hpl : (x.stopE i q).procs.length = x.procs.length := by unfold Ex.stopE; split <;> simp
 have hp := (List.getElem?_eq_some_iff.1 hq).1
 have hsm : (x.stopE i q).Small := ⟨by rw [hpl]; exact h.procs, by unfold Ex.stopE; split <;> exact h.out, by
  unfold Ex.stopE; split
  ·simp only [zgp, zga, zgb]; omega
  ·exact h.gone, by rw [hev]; exact h.key⟩
 generalize (if 0 < q.timer.length then gg + 1 else gg) = gg' at h0
 have hset2 : ∀ k : List Int, (x.stopE i q).procs.set i { q with timer := k } = x.procs.set i { q with timer := k } := fun k => by
  unfold Ex.stopE; split <;> simp
 have hq2 : ∃ q2, (x.stopE i q).procs[i]? = some q2 ∧ q2.prog = q.prog ∧ q2.pc = q.pc ∧ q2.alive = q.alive := by
  by_cases ht : 0 < q.timer.length
  ·simp only [Ex.stopE, ht, if_true]
   exact ⟨{ q with timer := [] }, by rw [List.getElem?_set_self hp], rfl, rfl, rfl⟩
  ·simp only [Ex.stopE, ht, if_false]
   exact ⟨q, hq, rfl, rfl, rfl⟩
 unfold Ex.timerE
 generalize x.stopE i q = y at h0 hev hpl hsm hset2 hq2
 obtain ⟨q2, hq2, e1, e2, e3⟩ := hq2
 have hi2 : y.ev.proc = i := by rw [hev]; exact hi
 have h1 := qsc a0 a1 a2 am y gp gc gg' i hi2 (by omega)
 have h2 := qabg a0 a1 a2 am y gp gc gg' 2 y.ev.proc op.b
 have h3 := qu8 a0 a1 a2 am y gp gc gg' hsm op.a 0 y.ev.lp 2 y.ev.proc op.b []
 refine ⟨qmx y op.a gc, gg', ?_⟩
 have hcp : (y.create op.a ⟨0, [], y.ev.lp, 2, y.ev.proc, op.b⟩).procs = y.procs := rfl
 simp only [Ex.ownE, Ex.setP, ← hev] at h0 ⊢
 generalize qmx y op.a gc = gc' at h3
 generalize y.create op.a ⟨0, [], y.ev.lp, 2, y.ev.proc, op.b⟩ = z at h3 hcp
 have hset : (y.procs.map Pr.r).set i [(ii q2.prog), (ii q2.pc), (bb q2.alive), (.fsl ((y.kid).map qb9) false)] = (y.procs.set i { q with timer := y.kid }).map Pr.r := by rw [List.map_set, e1, e2, e3]; rfl
 have hl : (y.procs.set i { q with timer := y.kid }).length = y.procs.length := by simp
 rw [qx qnt qna]
 simp only [List.map_nil, hcp] at h3
 simp only [qf2, h0, h1, h2, h3, hcp, hl, zgq, zgt, hq2, Pr.r, eq_procs, eq_evts, eq_keys, q3l, eq_table, qag, qau, qv, qbs, Nat.reduceLT, qn, Ev.exec, qb, qe, qc, qd3, Ev.item_R, qr4, Ev.SObj.eqB, q4q, q2r, qu7, qrg, q3m, q7w, q3o, Ev.eqB_sl, qai, Ev.evs, Ev.Opnd.ev, Ev.Env.get, Ev.Env.set, Ev.look, qo, qk, qae, Ev.AV.cells, Ev.AV.uc, qy, Ev.AV.plain, qm, qab, qaj, Ev.kill, qah, qd, Ev.SObj.lo, qa1, qu, qbn, qj, qh, qac, qao, ↓qs, ↓reduceIte, zga, zgb, zgd, zge, zgc, zgo, zfe, zgf, zgg, List.drop_nil, zgm, zgl, zgn, zgj, zgk, zgh, Nat.reduceAdd, Nat.reduceEqDiff, Nat.reduceLT, reduceCtorEq, zgv, zfc, zfa, zgx, ne_eq, zfb, zff, zfd, Nat.le_refl, zgy, beq_self_eq_true, hset]
end
end
set_option maxRecDepth 10000
def qdv (x : Ex) (i : Nat) (q : Pr) (op : OpI) : Ex × Int :=
 if op.code = 1 then (x.create op.a (x.ownE 1 x.ev.proc 0), 1)
 else if op.code = 2 then (x.create op.c ⟨0, [], op.a, 3, 0, op.b⟩, 0)
 else if op.code = 3 then (x.timerE i q op, 0)
 else if op.code = 4 then (x.stopE i q, 0)
 else if op.code = 5 then (x.spawnE op, 0)
 else if op.code = 6 then (x.setReg op.a (w64 (x.reg op.a + op.b)), 0)
 else if op.code = 7 then (if x.reg op.a < op.b then x.setP i { q with pc := op.c } else x, 0)
 else (x, 2)
structure OpOk' (op : OpI) : Prop where
 code : 1 ≤ op.code ∧ op.code ≤ 8
 reg : op.code = 6 ∨ op.code = 7 → op.a = 0 ∨ op.a = 1
 to : op.code = 7 → 0 ≤ op.c ∧ op.c ≤ 1000000
section
variable (a0 a1 a2 : Int) (am : Nat) (x : Ex) (gp gc gg : Nat) (op : OpI) (i : Nat) (q : Pr)
theorem step_ev (h : x.Small) (hg : x.gone.length < 1000) (hi : x.ev.proc = i) (hq : x.procs[i]? = some q) (ho : OpOk' op) :
  ∃ k gp' gc' gg', getL op.code qgj = some (.fn (.func k) [] []) ∧ (evL T).call k [.ptr 5 0 0 0, (.agg [(ii op.code), (ii op.a), (ii op.b), (ii op.c)])] [.row 4 [[(ii a0), (ii a1), .sl 2 0 0 am false, (ii a2)]] 0, .row 4 [[(ii 0), (ii 0), .fsl [] false, (ii 0)]] 0, .row 4 ((x.procs).map Pr.r) gp, .row 6 ((x.out).map Evt.r) gc, .row 1 ((x.gone).map qfz) gg, .row 14 [[(ii x.r0), (ii x.r1), .sl 2 gp 0 x.procs.length false, (ii x.sum), (ii x.ev.time), (.fsl ((x.ev.key).map qb9) false), (ii x.ev.lp), (ii x.ev.kind), (ii x.ev.proc), (ii x.ev.arg), .sl 3 gc 0 x.out.length false, (ii x.n), .sl 4 gg 0 x.gone.length false, (bb x.over)]] 0, .mp .i64 qgj] = some ((ii ((qdv x i q op).2)), [.row 4 [[(ii a0), (ii a1), .sl 2 0 0 am false, (ii a2)]] 0, .row 4 [[(ii 0), (ii 0), .fsl [] false, (ii 0)]] 0, .row 4 (((qdv x i q op).1.procs).map Pr.r) gp', .row 6 (((qdv x i q op).1.out).map Evt.r) gc', .row 1 (((qdv x i q op).1.gone).map qfz) gg', .row 14 [[(ii ((qdv x i q op).1.r0)), (ii ((qdv x i q op).1.r1)), .sl 2 gp' 0 (qdv x i q op).1.procs.length false, (ii ((qdv x i q op).1.sum)), (ii ((qdv x i q op).1.ev.time)), (.fsl (((qdv x i q op).1.ev.key).map qb9) false), (ii ((qdv x i q op).1.ev.lp)), (ii ((qdv x i q op).1.ev.kind)), (ii ((qdv x i q op).1.ev.proc)), (ii ((qdv x i q op).1.ev.arg)), .sl 3 gc' 0 (qdv x i q op).1.out.length false, (ii ((qdv x i q op).1.n)), .sl 4 gg' 0 (qdv x i q op).1.gone.length false, (bb ((qdv x i q op).1.over))]] 0, .mp .i64 qgj]) := by
 have hc : op.code = 1 ∨ op.code = 2 ∨ op.code = 3 ∨ op.code = 4 ∨ op.code = 5 ∨ op.code = 6 ∨ op.code = 7 ∨ op.code = 8 := by have := ho.code; omega
 have ne : ∀ m n : Int, decide (m = n) = false → ¬ m = n := fun m n h => of_decide_eq_false h
 rcases hc with hc | hc | hc | hc | hc | hc | hc | hc
 ·refine ⟨qck, gp, qmx x op.a gc, gg, by rw [hc]; rfl, ?_⟩
  have e : qdv x i q op = (x.create op.a (x.ownE 1 x.ev.proc 0), 1) := by simp [qdv, hc]
  rw [e]; exact hold_ev a0 a1 a2 am x gp gc gg op h
 ·refine ⟨qcj, gp, qmx x op.c gc, gg, by rw [hc]; rfl, ?_⟩
  have e : qdv x i q op = (x.create op.c ⟨0, [], op.a, 3, 0, op.b⟩, 0) := by simp [qdv, hc]
  rw [e]; exact send_ev a0 a1 a2 am x gp gc gg op h
 ·obtain ⟨gc', gg', hz⟩ := timer_ev a0 a1 a2 am x gp gc gg op i q hi hq h hg
  refine ⟨qcf, gp, gc', gg', by rw [hc]; rfl, ?_⟩
  have e : qdv x i q op = (x.timerE i q op, 0) := by simp [qdv, hc]
  rw [e]; exact hz
 ·refine ⟨qb7, gp, gc, (if 0 < q.timer.length then gg + 1 else gg), by rw [hc]; rfl, ?_⟩
  have e : qdv x i q op = (x.stopE i q, 0) := by simp [qdv, hc]
  rw [e]; exact qaaf a0 a1 a2 am x gp gc gg op i q hi hq h
 ·obtain ⟨gp', gc', hz⟩ := spawn_ev a0 a1 a2 am x gp gc gg op h
  refine ⟨qcg, gp', gc', gg, by rw [hc]; rfl, ?_⟩
  have e : qdv x i q op = (x.spawnE op, 0) := by simp [qdv, hc]
  rw [e]; exact hz
 ·refine ⟨qct, gp, gc, gg, by rw [hc]; rfl, ?_⟩
  have e : qdv x i q op = (x.setReg op.a (w64 (x.reg op.a + op.b)), 0) := by simp [qdv, hc]
  rw [e]; exact add_ev a0 a1 a2 am x gp gc gg op (ho.reg (.inl hc))
 ·refine ⟨qcn, gp, gc, gg, by rw [hc]; rfl, ?_⟩
  have e : qdv x i q op = (if x.reg op.a < op.b then x.setP i { q with pc := op.c } else x, 0) := by simp [qdv, hc]
  rw [e]; exact less_ev a0 a1 a2 am x gp gc gg op i q hi hq (ho.reg (.inr hc))
 ·refine ⟨qcu, gp, gc, gg, by rw [hc]; rfl, ?_⟩
  have e : qdv x i q op = (x, 2) := by simp [qdv, hc]
  rw [e]; exact end_ev a0 a1 a2 am x gp gc gg op
end
def qmo (x : Ex) (i : Nat) : Ex := match x.procs[i]? with
 | some q => x.setP i { q with alive := false }
 | none => x
def qlv (p : List OpI) (i : Nat) : Nat → Ex → Ex
 | 0, x => qmo x i
 | n + 1, x => match x.procs[i]? with
  | none => x
  | some q => match p[q.pc.toNat]? with
   | none => qmo x i
   | some op =>
    if (qdv (x.setP i { q with pc := w64 (q.pc + 1) }) i { q with pc := w64 (q.pc + 1) } op).2 = 1 then (qdv (x.setP i { q with pc := w64 (q.pc + 1) }) i { q with pc := w64 (q.pc + 1) } op).1
    else if (qdv (x.setP i { q with pc := w64 (q.pc + 1) }) i { q with pc := w64 (q.pc + 1) } op).2 = 2 then qmo (qdv (x.setP i { q with pc := w64 (q.pc + 1) }) i { q with pc := w64 (q.pc + 1) } op).1 i
    else qlv p i n (qdv (x.setP i { q with pc := w64 (q.pc + 1) }) i { q with pc := w64 (q.pc + 1) } op).1
structure ActInv (e : Evt) (i n : Nat) (x : Ex) : Prop where
 ev : x.ev = e
 has : ∃ q, x.procs[i]? = some q ∧ 0 ≤ q.pc ∧ q.pc ≤ 1000000
 procs : x.procs.length ≤ 20
 out : x.out.length ≤ n
 gone : x.gone.length ≤ n
theorem ActInv.small {e : Evt} {i n : Nat} {x : Ex} (h : ActInv e i n x) (hn : n ≤ 100) (hk : e.key.length ≤ 100000) : x.Small := ⟨by have := h.procs; omega, by have := h.out; omega, by have := h.gone; omega, by rw [h.ev]; exact hk⟩
theorem q8l (x : Ex) (d : Int) (e : Evt) : (x.create d e).out.length ≤ x.out.length + 1 := by
 unfold Ex.create; simp only; split
 ·omega
 ·simp
theorem ActInv.step {e : Evt} {i n : Nat} {x : Ex} (h : ActInv e i n x) {q : Pr} (hq : x.procs[i]? = some q) (hpc : 0 ≤ q.pc ∧ q.pc ≤ 1000000) {op : OpI} (ho : OpOk' op) : ActInv e i (n + 1) (qdv x i q op).1 := by
 have hlt := (List.getElem?_eq_some_iff.1 hq).1
 have hp := h.procs
 have h1 := h.out
 have h2 := h.gone
 have stop : ActInv e i (n + 1) (x.stopE i q) ∧ (x.stopE i q).out = x.out := by
  unfold Ex.stopE; split
  ·exact ⟨⟨h.ev, ⟨{ q with timer := [] }, by simp only; rw [List.getElem?_set_self hlt], hpc⟩, by simpa using hp, by simp only; omega, by simp; omega⟩, rfl⟩
  ·exact ⟨⟨h.ev, ⟨q, hq, hpc⟩, hp, by omega, by omega⟩, rfl⟩
 have crt : ∀ (y : Ex) (d : Int) (ev : Evt), y.ev = e → (∃ q, y.procs[i]? = some q ∧ 0 ≤ q.pc ∧ q.pc ≤ 1000000) → y.procs.length ≤ 20 → y.out.length ≤ n → y.gone.length ≤ n + 1 → ActInv e i (n + 1) (y.create d ev) := fun y d ev k1 k2 k3 k4 k5 =>
  ⟨k1, k2, k3, by have := q8l y d ev; omega, k5⟩
 unfold qdv
 split
 ·exact crt x _ _ h.ev ⟨q, hq, hpc⟩ hp h1 (by omega)
 split
 ·exact crt x _ _ h.ev ⟨q, hq, hpc⟩ hp h1 (by omega)
 split
 ·obtain ⟨s1, s2⟩ := stop
  have hc := crt (x.stopE i q) op.a (x.ownE 2 x.ev.proc op.b) s1.ev s1.has s1.procs (by rw [s2]; exact h1) s1.gone
  have hl : i < ((x.stopE i q).create op.a (x.ownE 2 x.ev.proc op.b)).procs.length := by
   obtain ⟨q', hq', _⟩ := hc.has
   exact (List.getElem?_eq_some_iff.1 hq').1
  exact ⟨hc.ev, ⟨{ q with timer := (x.stopE i q).kid }, by simp only [Ex.timerE, Ex.setP]; rw [List.getElem?_set_self hl], hpc⟩, by simp only [Ex.timerE, Ex.setP, List.length_set]; exact hc.procs, hc.out, hc.gone⟩
 split
 ·exact stop.1
 split
 ·unfold Ex.spawnE
  split
  ·refine crt _ _ _ h.ev ⟨q, by simp only; rw [List.getElem?_append_left hlt]; exact hq, hpc⟩ (by simp; omega) h1 (by simp only; omega)
  ·exact ⟨h.ev, ⟨q, hq, hpc⟩, hp, by first | omega | (simp only; omega), by first | omega | (simp only; omega)⟩
 split
 ·unfold Ex.setReg
  split <;> exact ⟨h.ev, ⟨q, hq, hpc⟩, hp, by first | omega | (simp only; omega), by first | omega | (simp only; omega)⟩
 split
 ·rename_i h7
  simp only
  split
  ·exact ⟨h.ev, ⟨{ q with pc := op.c }, by simp only [Ex.setP]; rw [List.getElem?_set_self hlt], ho.to h7⟩, by simp only [Ex.setP, List.length_set]; exact hp, by simp only [Ex.setP]; omega, by simp only [Ex.setP]; omega⟩
  ·exact ⟨h.ev, ⟨q, hq, hpc⟩, hp, by first | omega | (simp only; omega), by first | omega | (simp only; omega)⟩
 ·exact ⟨h.ev, ⟨q, hq, hpc⟩, hp, by first | omega | (simp only; omega), by first | omega | (simp only; omega)⟩
set_option maxRecDepth 10000
theorem ActInv.pc {e : Evt} {i n : Nat} {x : Ex} (h : ActInv e i n x) {q : Pr} (hq : x.procs[i]? = some q) {pc : Int} (hp : 0 ≤ pc ∧ pc ≤ 1000000) (al : Bool) : ActInv e i n (x.setP i { q with pc := pc, alive := al }) := by
 have hlt := (List.getElem?_eq_some_iff.1 hq).1
 exact ⟨h.ev, ⟨{ q with pc := pc, alive := al }, by simp only [Ex.setP]; rw [List.getElem?_set_self hlt], hp⟩, by simp only [Ex.setP, List.length_set]; exact h.procs, h.out, h.gone⟩
section
variable (a0 a1 a2 : Int) (am : Nat) (e0 : Evt) (i : Nat) (p : List OpI) (cl : Bool)
def ActEnd (a0 a1 a2 : Int) (am : Nat) (e0 : Evt) (i : Nat) (F : Ex) (y : CExit × Env × qaa) : Prop :=
 ∃ z gp gc gg, y.2.2 = [.row 4 [[(ii a0), (ii a1), .sl 2 0 0 am false, (ii a2)]] 0, .row 4 [[(ii 0), (ii 0), .fsl [] false, (ii 0)]] 0, .row 4 ((z.procs).map Pr.r) gp, .row 6 ((z.out).map Evt.r) gc, .row 1 ((z.gone).map qfz) gg, .row 14 [[(ii z.r0), (ii z.r1), .sl 2 gp 0 z.procs.length false, (ii z.sum), (ii z.ev.time), (.fsl ((z.ev.key).map qb9) false), (ii z.ev.lp), (ii z.ev.kind), (ii z.ev.proc), (ii z.ev.arg), .sl 3 gc 0 z.out.length false, (ii z.n), .sl 4 gg 0 z.gone.length false, (bb z.over)]] 0, .mp .i64 qgj] ∧ y.2.1.marks = [] ∧ ((y.1 = .ret ∧ z = F ∧ ActInv e0 i 16 z) ∨ (y.1 = .exit 0 ∧ Ev.look y.2.1.vars 0 = some (.ptr 5 0 0 0) ∧ qmo z i = F ∧ ActInv e0 i 16 z))
theorem act_loop (hk : e0.key.length ≤ 100000) (hpr : e0.proc = i) (hpl : p.length ≤ 1000) (hok : ∀ op ∈ p, OpOk' op) (x : Ex) (gp gc gg : Nat) (h0 : ActInv e0 i 0 x) :
  ∃ y, itB (exec (evL T) itL none qbw) (qr [0, 1, 4, 7] true 7) ⟨[(0, .ptr 5 0 0 0), (1, (.fsl ((p).map OpI.r) cl)), (4, .mp 6), (7, (ii 0))], []⟩ [.row 4 [[(ii a0), (ii a1), .sl 2 0 0 am false, (ii a2)]] 0, .row 4 [[(ii 0), (ii 0), .fsl [] false, (ii 0)]] 0, .row 4 ((x.procs).map Pr.r) gp, .row 6 ((x.out).map Evt.r) gc, .row 1 ((x.gone).map qfz) gg, .row 14 [[(ii x.r0), (ii x.r1), .sl 2 gp 0 x.procs.length false, (ii x.sum), (ii x.ev.time), (.fsl ((x.ev.key).map qb9) false), (ii x.ev.lp), (ii x.ev.kind), (ii x.ev.proc), (ii x.ev.arg), .sl 3 gc 0 x.out.length false, (ii x.n), .sl 4 gg 0 x.gone.length false, (bb x.over)]] 0, .mp .i64 qgj] = some y ∧ ActEnd a0 a1 a2 am e0 i (qlv p i 16 x) y := by
 have := qeu (f := exec (evL T) itL none qbw) (s := qr [0, 1, 4, 7] true 7) (α := Ex × Nat × Nat × Nat) (fun j _ => ⟨[(0, .ptr 5 0 0 0), (1, (.fsl ((p).map OpI.r) cl)), (4, .mp 6), (7, (ii ((j : Int))))], []⟩) (fun _ a => [.row 4 [[(ii a0), (ii a1), .sl 2 0 0 am false, (ii a2)]] 0, .row 4 [[(ii 0), (ii 0), .fsl [] false, (ii 0)]] 0, .row 4 ((a.1.procs).map Pr.r) a.2.1, .row 6 ((a.1.out).map Evt.r) a.2.2.1, .row 1 ((a.1.gone).map qfz) a.2.2.2, .row 14 [[(ii a.1.r0), (ii a.1.r1), .sl 2 a.2.1 0 a.1.procs.length false, (ii a.1.sum), (ii a.1.ev.time), (.fsl ((a.1.ev.key).map qb9) false), (ii a.1.ev.lp), (ii a.1.ev.kind), (ii a.1.ev.proc), (ii a.1.ev.arg), .sl 3 a.2.2.1 0 a.1.out.length false, (ii a.1.n), .sl 4 a.2.2.2 0 a.1.gone.length false, (bb a.1.over)]] 0, .mp .i64 qgj])
  (fun j a => ActInv e0 i j a.1 ∧ qlv p i (16 - j) a.1 = qlv p i 16 x) 16 (ActEnd a0 a1 a2 am e0 i (qlv p i 16 x)) ?_ ?_ 0 (x, gp, gc, gg) (Nat.zero_le _) ⟨h0, rfl⟩
 ·exact this
 ·rintro j ⟨y, gp, gc, gg⟩ hj ⟨hi1, hi2⟩
  simp only at hi1 hi2 ⊢
  obtain ⟨q, hq, hpc⟩ := hi1.has
  have hlt := (List.getElem?_eq_some_iff.1 hq).1
  have hpr' : y.ev.proc = i := by rw [hi1.ev]; exact hpr
  have hj' : (j : Int) < 16 := by omega
  have hw : IntKind.i64.wrap ((j : Int) + 1) = ((j + 1 : Nat) : Int) := by rw [qaw (by omega) (by omega)]; simp
  have s1 := qsc a0 a1 a2 am y gp gc gg i hpr' hlt
  rw [show 16 - j = (16 - (j + 1)) + 1 from by omega, qlv, hq] at hi2
  simp only at hi2
  cases hop : p[q.pc.toNat]? with
  | none =>
   rw [hop] at hi2
   simp only at hi2
   have hge : q.pc ≥ (p.length : Int) := by have := List.getElem?_eq_none_iff.1 hop; omega
   right
   simp only [qbw, hj', hge, s1, zgq, zgt, hq, Pr.r, Ev.exec, qb, qe, qc, qd3, qai, Ev.evs, Ev.Opnd.ev, Ev.Env.get, Ev.Env.set, Ev.look, qk, qae, ql, qch, zgi, ↓qs, Ev.it1, ↓reduceIte, zgd, zge, zgf, zgg, zgh, Nat.reduceEqDiff, reduceCtorEq, zgv, zfa, zfd, zgy]
   exact ⟨_, rfl, y, gp, gc, gg, rfl, rfl, .inr ⟨rfl, rfl, hi2, ⟨hi1.ev, hi1.has, hi1.procs, by have := hi1.out; omega, by have := hi1.gone; omega⟩⟩⟩
  | some op =>
   rw [hop] at hi2
   simp only at hi2
   have hlp := (List.getElem?_eq_some_iff.1 hop).1
   have hge : ¬ q.pc ≥ (p.length : Int) := by omega
   have hwq : w64 (q.pc + 1) = q.pc + 1 := qaw (by omega) (by omega)
   have hwq' : IntKind.i64.wrap (q.pc + 1) = q.pc + 1 := hwq
   have hset : (y.procs.map Pr.r).set i [(ii q.prog), (ii (q.pc + 1)), (bb q.alive), (.fsl ((q.timer).map qb9) false)] = (y.procs.set i { q with pc := q.pc + 1 }).map Pr.r := by rw [List.map_set]; rfl
   have hl : (y.procs.set i { q with pc := q.pc + 1 }).length = y.procs.length := by simp
   rw [hwq] at hi2
   have hz : ActInv e0 i j (y.setP i { q with pc := q.pc + 1 }) := hi1.pc hq (by omega) q.alive
   have hzq : (y.setP i { q with pc := q.pc + 1 }).procs[i]? = some { q with pc := q.pc + 1 } := by simp only [Ex.setP]; rw [List.getElem?_set_self hlt]
   have hzp : (y.setP i { q with pc := q.pc + 1 }).ev.proc = i := hpr'
   have hoo := hok op (List.mem_of_getElem? hop)
   have hn := hz.step hzq (show 0 ≤ q.pc + 1 ∧ q.pc + 1 ≤ 1000000 by omega) hoo
   obtain ⟨k, gp', gc', gg', t1, t2⟩ := step_ev a0 a1 a2 am (y.setP i { q with pc := q.pc + 1 }) gp gc gg op i { q with pc := q.pc + 1 } (hz.small (by omega) hk) (by have := hz.gone; omega) hzp hzq hoo
   generalize hS : qdv (y.setP i { q with pc := q.pc + 1 }) i { q with pc := q.pc + 1 } op = S at hi2 hn t2
   obtain ⟨z, sig⟩ := S
   simp only at hi2 hn t2
   have hsig : sig = 0 ∨ sig = 1 ∨ sig = 2 := by
    have : (qdv (y.setP i { q with pc := q.pc + 1 }) i { q with pc := q.pc + 1 } op).2 = sig := by rw [hS]
    rw [← this]
    unfold qdv
    repeat' (first | (split) | exact .inl rfl | exact .inr (.inl rfl) | exact .inr (.inr rfl))
   simp only [Ex.setP, hl] at t2
   obtain ⟨qz, hqz, hqzp⟩ := hn.has
   have hltz := (List.getElem?_eq_some_iff.1 hqz).1
   have s2 := qsc a0 a1 a2 am z gp' gc' gg' i (by rw [hn.ev]; exact hpr) hltz
   rcases hsig with rfl | rfl | rfl
   ·left
    refine ⟨(z, gp', gc', gg'), ?_, hn, ?_⟩
    ·simp only [qbw, hj', hge, s1, hpc, hop, hwq', t1, t2, hw, zgq, zgt, hq, Pr.r, OpI.r, qi9, qag, qau, qv, qbs, Nat.reduceLT, Nat.reduceLeDiff, Ev.exec, qb, qe, qc, qd3, qk8, qai, Ev.evs, Ev.Opnd.ev, Ev.Env.get, Ev.Env.set, Ev.look, qk, qae, Ev.AV.cells, Ev.AV.uc, qy, Ev.AV.plain, qaf, qam, ql, qch, qr, Ev.keep, qad, qw, qd, Ev.SObj.lo, qa1, qu, qbn, qf0, Ev.lo_mp, Ev.gotL, qj, qh, qac, qao, zgi, ↓qs, Ev.it1, ↓reduceIte, zga, zgb, zgd, zge, zgc, zgo, zfe, zgf, zgg, zgm, zgl, zgn, zgj, zgk, zgh, Nat.reduceAdd, Nat.reduceEqDiff, Nat.reduceLT, Nat.reduceLeDiff, Int.reduceEq, reduceCtorEq, zgv, zgw, zfc, zfa, zgx, zfd, zgu, Nat.le_refl, zgy, hset]
    ·simp only [show ¬ (0 : Int) = 1 from by decide, show ¬ (0 : Int) = 2 from by decide, if_false] at hi2
     exact hi2
   ·right
    simp only [if_true] at hi2
    simp only [qbw, hj', hge, s1, hpc, hop, hwq', t1, t2, zgq, zgt, hq, Pr.r, OpI.r, Nat.reduceLeDiff, Ev.exec, qb, qe, qc, qd3, qk8, qai, Ev.evs, Ev.Opnd.ev, Ev.Env.get, Ev.Env.set, Ev.look, qk, qae, Ev.AV.cells, Ev.AV.uc, qy, Ev.AV.plain, qaf, qam, ql, qch, Ev.gotL, zgi, ↓qs, Ev.it1, ↓reduceIte, zga, zgb, zgd, zge, zgc, zgo, zfe, zgf, zgg, zgm, zgl, zgn, zgj, zgk, zgh, Nat.reduceAdd, Nat.reduceEqDiff, Nat.reduceLeDiff, reduceCtorEq, zgv, zgw, zfc, zfa, zgx, zfd, Nat.le_refl, zgy, hset]
    exact ⟨_, rfl, z, gp', gc', gg', rfl, rfl, .inl ⟨rfl, hi2, ⟨hn.ev, hn.has, hn.procs, by have := hn.out; omega, by have := hn.gone; omega⟩⟩⟩
   ·right
    simp only [show ¬ (2 : Int) = 1 from by decide, if_true, if_false] at hi2
    have hkz : qmo z i = z.setP i { qz with alive := false } := by unfold qmo; rw [hqz]
    rw [hkz] at hi2
    have hset2 : (z.procs.map Pr.r).set i [(ii qz.prog), (ii qz.pc), (bb false), (.fsl ((qz.timer).map qb9) false)] = (z.procs.set i { qz with alive := false }).map Pr.r := by rw [List.map_set]; rfl
    have hl2 : (z.procs.set i { qz with alive := false }).length = z.procs.length := by simp
    have hfin := hn.pc hqz hqzp false
    simp only [qbw, hj', hge, s1, hpc, hop, hwq', t1, t2, s2, zgq, zgt, hq, hqz, Pr.r, OpI.r, Nat.reduceLeDiff, Ev.exec, qb, qe, qc, qd3, qk8, qai, Ev.evs, Ev.Opnd.ev, Ev.Env.get, Ev.Env.set, Ev.look, qk, qae, Ev.AV.cells, Ev.AV.uc, qy, Ev.AV.plain, qaf, qam, ql, qch, Ev.gotL, zgi, ↓qs, Ev.it1, ↓reduceIte, zga, zgb, zgd, zge, zgc, zgo, zfe, zgf, zgg, zgm, zgl, zgn, zgj, zgk, zgh, Nat.reduceAdd, Nat.reduceEqDiff, Nat.reduceLeDiff, Int.reduceEq, reduceCtorEq, zgv, zgw, zfc, zfa, zgx, zfd, Nat.le_refl, zgy, hset, hset2]
    refine ⟨_, rfl, z.setP i { qz with alive := false }, gp', gc', gg', ?_, rfl, .inl ⟨rfl, hi2, ⟨hfin.ev, hfin.has, hfin.procs, by have := hfin.out; omega, by have := hfin.gone; omega⟩⟩⟩
    simp only [Ex.setP, hl2]
 ·rintro ⟨y, gp, gc, gg⟩ ⟨hi1, hi2⟩
  simp only [qbw, Int.lt_irrefl, Ev.exec, qb, qe, qc, qai, Ev.Opnd.ev, Ev.Env.get, Ev.Env.set, Ev.look, ql, ↓qs, Ev.it1, ↓reduceIte, Nat.reduceEqDiff, Int.cast_ofNat_Int, reduceCtorEq, zgw, zfa, zgy]
  exact ⟨_, rfl, y, gp, gc, gg, rfl, rfl, .inr ⟨rfl, rfl, hi2, hi1⟩⟩
end
set_option maxRecDepth 10000
theorem qru : (evL T).call qdz [] [] = some (.mp 0, [.mp .i64 qgj]) := by
 rw [qx qpt qpo]
 simp only [qhh, qgj, qn, Ev.exec, qb, qe, qc, qai, Ev.Opnd.ev, Ev.Env.get, Ev.Env.set, Ev.look, qo, qm, qab, qaj, Ev.kill, qah, qd, qe3, Ev.lo_mp, q9o, qj, ↓qs, ↓reduceIte, zgb, zgd, zgo, zgl, zgj, Nat.reduceLT, Int.reduceEq, zgw, zfc, zfa, zgx, and_true, zgy]
section
variable (a0 a1 a2 : Int) (am : Nat) (e0 : Evt) (i : Nat) (p : List OpI) (cl : Bool)
theorem q5v (hk : e0.key.length ≤ 100000) (hpr : e0.proc = i) (hpl : p.length ≤ 1000) (hok : ∀ op ∈ p, OpOk' op) (x : Ex) (gp gc gg : Nat) (h0 : ActInv e0 i 0 x) :
  ∃ gp' gc' gg', (evL T).call qcv [.ptr 5 0 0 0, (.fsl ((p).map OpI.r) cl)] [.row 4 [[(ii a0), (ii a1), .sl 2 0 0 am false, (ii a2)]] 0, .row 4 [[(ii 0), (ii 0), .fsl [] false, (ii 0)]] 0, .row 4 ((x.procs).map Pr.r) gp, .row 6 ((x.out).map Evt.r) gc, .row 1 ((x.gone).map qfz) gg, .row 14 [[(ii x.r0), (ii x.r1), .sl 2 gp 0 x.procs.length false, (ii x.sum), (ii x.ev.time), (.fsl ((x.ev.key).map qb9) false), (ii x.ev.lp), (ii x.ev.kind), (ii x.ev.proc), (ii x.ev.arg), .sl 3 gc 0 x.out.length false, (ii x.n), .sl 4 gg 0 x.gone.length false, (bb x.over)]] 0] = some (.tup [], [.row 4 [[(ii a0), (ii a1), .sl 2 0 0 am false, (ii a2)]] 0, .row 4 [[(ii 0), (ii 0), .fsl [] false, (ii 0)]] 0, .row 4 (((qlv p i 16 x).procs).map Pr.r) gp', .row 6 (((qlv p i 16 x).out).map Evt.r) gc', .row 1 (((qlv p i 16 x).gone).map qfz) gg', .row 14 [[(ii ((qlv p i 16 x).r0)), (ii ((qlv p i 16 x).r1)), .sl 2 gp' 0 (qlv p i 16 x).procs.length false, (ii ((qlv p i 16 x).sum)), (ii ((qlv p i 16 x).ev.time)), (.fsl (((qlv p i 16 x).ev.key).map qb9) false), (ii ((qlv p i 16 x).ev.lp)), (ii ((qlv p i 16 x).ev.kind)), (ii ((qlv p i 16 x).ev.proc)), (ii ((qlv p i 16 x).ev.arg)), .sl 3 gc' 0 (qlv p i 16 x).out.length false, (ii ((qlv p i 16 x).n)), .sl 4 gg' 0 (qlv p i 16 x).gone.length false, (bb ((qlv p i 16 x).over))]] 0]) ∧ ActInv e0 i 16 (qlv p i 16 x) := by
 obtain ⟨⟨y, e, σ⟩, k1, z, gp', gc', gg', k2, k3, k4⟩ := act_loop a0 a1 a2 am e0 i p cl hk hpr hpl hok x gp gc gg h0
 simp only at k2 k3 k4
 subst k2
 generalize qlv p i 16 x = F at k4
 rw [qx qmt qmi]
 rcases k4 with ⟨rfl, rfl, k5⟩ | ⟨rfl, k5, k6, k7⟩
 ·refine ⟨gp', gc', gg', ?_, k5⟩
  simp only [qd1, qru, k1, k3, qi9, qag, qau, qv, qbs, Nat.reduceLT, qn, Ev.exec, qb, qe, qc, qps, q2k, Ev.AV.shift, qai, Ev.evs, Ev.Opnd.ev, Ev.Env.get, Ev.Env.set, Ev.look, qo, qm, qaj, Ev.kill, qah, qr, Ev.keep, qad, qw, qd, Ev.SObj.lo, qa1, qba, qu, qbn, qf0, Ev.lo_mp, qj, qh, qac, qao, qgi, qem, ↓qs, ↓qaq, ↓reduceIte, zga, zgb, zgc, zgo, zfe, zgm, zgl, Nat.reduceAdd, Nat.reduceEqDiff, Nat.reduceLT, reduceCtorEq, zgv, zfc, zgx, zfd, zgu, zgy]
 ·obtain ⟨q, hq, hpc⟩ := k7.has
  have hlt := (List.getElem?_eq_some_iff.1 hq).1
  have s2 := qsc a0 a1 a2 am z gp' gc' gg' i (by rw [k7.ev]; exact hpr) hlt
  have hkz : qmo z i = z.setP i { q with alive := false } := by unfold qmo; rw [hq]
  rw [hkz] at k6
  have hset : (z.procs.map Pr.r).set i [(ii q.prog), (ii q.pc), (bb false), (.fsl ((q.timer).map qb9) false)] = (z.procs.set i { q with alive := false }).map Pr.r := by rw [List.map_set]; rfl
  have hl : (z.procs.set i { q with alive := false }).length = z.procs.length := by simp
  have hfin := k7.pc hq hpc false
  subst k6
  refine ⟨gp', gc', gg', ?_, hfin⟩
  simp only [Ex.setP, hl]
  simp only [qd1, qru, k1, k3, k5, s2, zgq, zgt, hq, Pr.r, qi9, qag, qau, qv, qbs, Nat.reduceLT, Nat.reduceLeDiff, qn, Ev.exec, qb, qe, qc, qps, qd3, q2k, Ev.AV.shift, qai, Ev.evs, Ev.Opnd.ev, Ev.Env.get, Ev.Env.set, Ev.look, qo, Ev.AV.cells, Ev.AV.uc, qy, Ev.AV.plain, qm, qaj, Ev.kill, qah, qr, Ev.keep, qad, qw, qd, Ev.SObj.lo, qa1, qba, qu, qbn, qf0, Ev.lo_mp, qj, qh, qac, qao, qgi, qem, ↓qs, ↓qaq, ↓reduceIte, zga, zgb, zgd, zge, zgc, zgo, zfe, zgf, zgg, zgm, zgl, zgj, zgk, Nat.reduceAdd, Nat.reduceEqDiff, Nat.reduceLT, Nat.reduceLeDiff, reduceCtorEq, zgv, zfc, zgx, zfd, zgu, zgy, hset]
end
set_option maxRecDepth 10000
theorem q1n (l : List Pr) (c : Bool) (h : l.length ≤ 1000) : (evL T).call qda [(.fsl ((l).map Pr.r) c)] [] = some (.sl 0 0 0 l.length false, [.row 4 (l.map Pr.r) 0]) := by
 have h' : l.length * 48 ≤ 140737488355328 := by omega
 rw [q3t qlh]
 simp only [qr7, qau, q35, h', qu, qj, qh, zgi, ↓reduceIte, Nat.reduceLT, Nat.reducePow, zfc, zgx, zgy]
theorem q64 (a0 a1 a2 : Int) (am : Nat) (x : Ex) (gp gc gg : Nat) (i : Nat) (hi : x.ev.proc = i) (hp : i < x.procs.length) :
  (evL T).call qa0 [.ptr 5 0 0 0] [.row 4 [[(ii a0), (ii a1), .sl 2 0 0 am false, (ii a2)]] 0, .row 4 [[(ii 0), (ii 0), .fsl [] false, (ii 0)]] 0, .row 4 ((x.procs).map Pr.r) gp, .row 6 ((x.out).map Evt.r) gc, .row 1 ((x.gone).map qfz) gg, .row 14 [[(ii x.r0), (ii x.r1), .sl 2 gp 0 x.procs.length false, (ii x.sum), (ii x.ev.time), (.fsl ((x.ev.key).map qb9) false), (ii x.ev.lp), (ii x.ev.kind), (ii x.ev.proc), (ii x.ev.arg), .sl 3 gc 0 x.out.length false, (ii x.n), .sl 4 gg 0 x.gone.length false, (bb x.over)]] 0] = some (.ptr 2 gp i 0, [.row 4 [[(ii a0), (ii a1), .sl 2 0 0 am false, (ii a2)]] 0, .row 4 [[(ii 0), (ii 0), .fsl [] false, (ii 0)]] 0, .row 4 ((x.procs).map Pr.r) gp, .row 6 ((x.out).map Evt.r) gc, .row 1 ((x.gone).map qfz) gg, .row 14 [[(ii x.r0), (ii x.r1), .sl 2 gp 0 x.procs.length false, (ii x.sum), (ii x.ev.time), (.fsl ((x.ev.key).map qb9) false), (ii x.ev.lp), (ii x.ev.kind), (ii x.ev.proc), (ii x.ev.arg), .sl 3 gc 0 x.out.length false, (ii x.n), .sl 4 gg 0 x.gone.length false, (bb x.over)]] 0]) := by
 rw [qx qkt qkl]
 simp only [qe6, hi, hp, zgs, zgr, qag, qau, qv, qbs, Nat.reduceLT, qn, Ev.exec, qb, qe, qc, qai, Ev.Opnd.ev, Ev.Env.get, Ev.Env.set, Ev.look, qo, qk, qae, qm, qab, qaj, Ev.kill, qah, qd, Ev.SObj.lo, qa1, qu, qbn, qf0, qj, qh, qac, qao, ↓qs, ↓reduceIte, zga, zgb, zgd, zge, zgc, zfe, zgf, zgg, zgh, Nat.reduceAdd, Nat.reduceEqDiff, Nat.reduceLT, reduceCtorEq, zgv, zfc, zfa, zgx, zfd, Nat.add_zero, zgy]
def qc7 (x : Lp) (e : Evt) : Ex := ⟨x.r0, x.r1, x.procs, x.sum, e, [], 0, [], false⟩
def qjk (e : Evt) (q : Pr) : Pr := if e.kind = 2 then { q with pc := e.arg, timer := if q.timer = e.key then [] else q.timer } else q
def q4j (x : Ex) : Lp := ⟨x.r0, x.r1, x.procs, x.sum⟩
def qmy (x : Lp) (e : Evt) : Option Pr := if (e.kind = 1 ∨ e.kind = 2) ∧ 0 ≤ e.proc then (x.procs[e.proc.toNat]?).bind fun q => if q.alive = true then some q else none else none
def qq1 (c : Cfg) (x : Lp) (e : Evt) (q : Pr) : Ex := qlv ((c.progs[q.prog.toNat]?).getD []) e.proc.toNat 16 ((qc7 x e).setP e.proc.toNat (qjk e q))
structure qus (c : Cfg) (x : Lp) (e : Evt) : Prop where
 procs : x.procs.length ≤ 20
 key : e.key.length ≤ 100000
 proc : ∀ q ∈ x.procs, 0 ≤ q.prog ∧ q.prog < c.progs.length ∧ 0 ≤ q.pc ∧ q.pc ≤ 1000000 ∧ q.timer.length ≤ 100000
 prog : ∀ p ∈ c.progs, p.length ≤ 1000 ∧ ∀ op ∈ p, OpOk' op
 arg : e.kind = 2 → 0 ≤ e.arg ∧ e.arg ≤ 1000000
section
variable (c : Cfg) (x : Lp) (e : Evt)
theorem Exec_msg (hk : e.kind = 3) : qa4 (evL T) qej [(.agg [(.fsl ((c.lps).map lpC) false), (.fsl ((c.progs).map qc1) false), (ii c.look), (ii c.fin), (ii c.cap)]), (.agg [(ii x.r0), (ii x.r1), (.fsl ((x.procs).map Pr.r) false), (ii x.sum)]), (.agg [(ii e.time), (.fsl ((e.key).map qb9) false), (ii e.lp), (ii e.kind), (ii e.proc), (ii e.arg)])] = some (.tup [(.agg [(ii ((⟨x.r0, x.r1, x.procs, w64 (x.sum + e.arg)⟩ : Lp).r0)), (ii ((⟨x.r0, x.r1, x.procs, w64 (x.sum + e.arg)⟩ : Lp).r1)), (.fsl (((⟨x.r0, x.r1, x.procs, w64 (x.sum + e.arg)⟩ : Lp).procs).map Pr.r) false), (ii ((⟨x.r0, x.r1, x.procs, w64 (x.sum + e.arg)⟩ : Lp).sum))]), .fsl [] true, .fsl [] true, (bb false)]) := by
 rw [qa4, qx qla qks]
 simp only [qb3, hk, qau, qn, Ev.exec, qb, qe, qc, qai, Ev.Opnd.ev, Ev.Env.get, Ev.Env.set, Ev.look, qo, qk, qae, Ev.AV.cells, Ev.AV.uc, qy, Ev.AV.plain, qaf, qam, qm, qab, qaj, Ev.kill, qah, qd, qa1, qbd, qba, qu, qj, qh, qac, qal, ↓qs, ↓reduceIte, zga, zgb, zgd, zge, zgc, zgo, zfe, zgf, zgg, List.drop_nil, zgm, zgl, zgn, zgj, zgk, zgh, Nat.reduceAdd, Nat.reduceEqDiff, reduceCtorEq, zgv, zfc, zfa, zgx, ne_eq, zfb, zff, zfd, Nat.le_refl, zgy]
theorem qab1 (hk : ¬ e.kind = 3) (ha : qmy x e = none) : qa4 (evL T) qej [(.agg [(.fsl ((c.lps).map lpC) false), (.fsl ((c.progs).map qc1) false), (ii c.look), (ii c.fin), (ii c.cap)]), (.agg [(ii x.r0), (ii x.r1), (.fsl ((x.procs).map Pr.r) false), (ii x.sum)]), (.agg [(ii e.time), (.fsl ((e.key).map qb9) false), (ii e.lp), (ii e.kind), (ii e.proc), (ii e.arg)])] = some (.tup [(.agg [(ii x.r0), (ii x.r1), (.fsl ((x.procs).map Pr.r) false), (ii x.sum)]), .fsl [] true, .fsl [] true, (bb false)]) := by
 rw [qa4, qx qla qks]
 by_cases k1 : e.kind = 1
 case neg =>
  by_cases k2 : e.kind = 2
  case neg => simp only [qb3, hk, k1, k2, qau, qn, Ev.exec, qb, qe, qc, qai, Ev.Opnd.ev, Ev.Env.get, Ev.Env.set, Ev.look, qo, qk, qae, Ev.AV.cells, qy, Ev.AV.plain, qam, qbx, qm, qab, qaj, Ev.kill, qah, qd, qa1, qbd, qba, qu, qj, qh, qac, qal, ↓qs, ↓reduceIte, zga, zgb, zgd, zge, zgc, zgo, zfe, zgf, zgg, List.drop_nil, zgm, zgl, zgn, zgj, zgk, zgh, Nat.reduceAdd, Nat.reduceEqDiff, reduceCtorEq, zgv, zgw, zfc, zfa, zgx, ne_eq, zfb, zff, zfd, Nat.le_refl, zgy]
  by_cases h1 : e.proc < 0
  ·simp only [qb3, k2, h1, qau, qn, Ev.exec, qb, qe, qc, qai, Ev.Opnd.ev, Ev.Env.get, Ev.Env.set, Ev.look, qo, qk, qae, Ev.AV.cells, qy, Ev.AV.plain, qam, qbx, ql, qm, qab, qaj, Ev.kill, qah, qd, qa1, qbd, qba, qu, qj, qh, qac, qal, ↓qs, ↓reduceIte, zga, zgb, zgd, zge, zgc, zgo, zfe, zgf, zgg, List.drop_nil, zgm, zgl, zgn, zgj, zgk, zgh, Nat.reduceAdd, Nat.reduceEqDiff, Int.reduceEq, reduceCtorEq, zgv, zgw, zfc, zfa, zgx, ne_eq, zfb, not_true_eq_false, zff, zfd, Nat.le_refl, zgy]
  by_cases h2 : e.proc ≥ (x.procs.length : Int)
  ·simp only [qb3, k2, h1, h2, qau, qn, Ev.exec, qb, qe, qc, qai, Ev.Opnd.ev, Ev.Env.get, Ev.Env.set, Ev.look, qo, qk, qae, Ev.AV.cells, qy, Ev.AV.plain, qam, qbx, ql, qch, qm, qab, qaj, Ev.kill, qah, qd, qa1, qbd, qba, qu, qj, qh, qac, qal, zgi, ↓qs, ↓reduceIte, zga, zgb, zgd, zge, zgc, zgo, zfe, zgf, zgg, List.drop_nil, zgm, zgl, zgn, zgj, zgk, zgh, Nat.reduceAdd, Nat.reduceEqDiff, Int.reduceEq, reduceCtorEq, zgv, zgw, zfc, zfa, zgx, ne_eq, zfb, not_true_eq_false, zff, zfd, Nat.le_refl, zgy]
  obtain ⟨q, hq⟩ : ∃ q, x.procs[e.proc.toNat]? = some q := ⟨_, List.getElem?_eq_getElem (by omega)⟩
  have h0 : 0 ≤ e.proc := by omega
  have hal : q.alive = false := by
   unfold qmy at ha
   rw [if_pos ⟨.inr k2, h0⟩, hq] at ha
   cases h : q.alive with
   | false => rfl
   | true => simp [h] at ha
  simp only [qb3, k2, h0, h1, h2, hq, hal, zgq, zgt, Pr.r, qau, qn, Ev.exec, qb, qe, qc, qai, Ev.Opnd.ev, Ev.Env.get, Ev.Env.set, Ev.look, qo, qk, qae, Ev.AV.cells, qy, Ev.AV.plain, qam, qbx, ql, qch, qm, qab, qaj, Ev.kill, qah, qd, qa1, qbd, qba, qu, qj, qh, qac, qal, zgi, ↓qs, ↓reduceIte, zga, zgb, zgd, zge, zgc, zgo, zfe, zgf, zgg, List.drop_nil, zgm, zgl, zgn, zgj, zgk, zgh, Nat.reduceAdd, Nat.reduceEqDiff, Int.reduceEq, reduceCtorEq, zgv, zgw, zfc, Bool.not_false, zfa, zgx, ne_eq, zfb, not_true_eq_false, zff, zfd, Nat.le_refl, zgy]
 by_cases h1 : e.proc < 0
 ·simp only [qb3, k1, h1, qau, qn, Ev.exec, qb, qe, qc, qai, Ev.Opnd.ev, Ev.Env.get, Ev.Env.set, Ev.Env.unset, Ev.look, qo, qk, qae, Ev.AV.cells, qy, Ev.AV.plain, qam, qbx, ql, qm, qab, qaj, Ev.kill, qah, qd, qa1, qbd, qba, qu, qj, qh, qac, qal, ↓qs, ↓reduceIte, zga, zgb, zgd, zge, zgc, zgo, zfe, zgf, zgg, List.drop_nil, zgm, zgl, zgn, zgj, zgk, zgh, Nat.reduceAdd, Nat.reduceEqDiff, Int.reduceEq, reduceCtorEq, zgv, zgw, zfc, zfa, zgx, ne_eq, zfb, not_true_eq_false, zff, zfd, Nat.le_refl, zgy]
 by_cases h2 : e.proc ≥ (x.procs.length : Int)
 ·simp only [qb3, k1, h1, h2, qau, qn, Ev.exec, qb, qe, qc, qai, Ev.Opnd.ev, Ev.Env.get, Ev.Env.set, Ev.Env.unset, Ev.look, qo, qk, qae, Ev.AV.cells, qy, Ev.AV.plain, qam, qbx, ql, qch, qm, qab, qaj, Ev.kill, qah, qd, qa1, qbd, qba, qu, qj, qh, qac, qal, zgi, ↓qs, ↓reduceIte, zga, zgb, zgd, zge, zgc, zgo, zfe, zgf, zgg, List.drop_nil, zgm, zgl, zgn, zgj, zgk, zgh, Nat.reduceAdd, Nat.reduceEqDiff, Int.reduceEq, reduceCtorEq, zgv, zgw, zfc, zfa, zgx, ne_eq, zfb, not_true_eq_false, zff, zfd, Nat.le_refl, zgy]
 obtain ⟨q, hq⟩ : ∃ q, x.procs[e.proc.toNat]? = some q := ⟨_, List.getElem?_eq_getElem (by omega)⟩
 have h0 : 0 ≤ e.proc := by omega
 have hal : q.alive = false := by
  unfold qmy at ha
  rw [if_pos ⟨.inl k1, h0⟩, hq] at ha
  cases h : q.alive with
  | false => rfl
  | true => simp [h] at ha
 simp only [qb3, k1, h0, h1, h2, hq, hal, zgq, zgt, Pr.r, qau, qn, Ev.exec, qb, qe, qc, qai, Ev.Opnd.ev, Ev.Env.get, Ev.Env.set, Ev.Env.unset, Ev.look, qo, qk, qae, Ev.AV.cells, qy, Ev.AV.plain, qam, qbx, ql, qch, qm, qab, qaj, Ev.kill, qah, qd, qa1, qbd, qba, qu, qj, qh, qac, qal, zgi, ↓qs, ↓reduceIte, zga, zgb, zgd, zge, zgc, zgo, zfe, zgf, zgg, List.drop_nil, zgm, zgl, zgn, zgj, zgk, zgh, Nat.reduceAdd, Nat.reduceEqDiff, Int.reduceEq, reduceCtorEq, zgw, zfc, Bool.not_false, zfa, zgx, ne_eq, zfb, not_true_eq_false, zff, zfd, Nat.le_refl, zgy]
end
set_option maxRecDepth 10000
section
variable (c : Cfg) (x : Lp) (e : Evt)
theorem qyq (h : qus c x e) {i : Nat} {q : Pr} (hi : e.proc = i) (hq : x.procs[i]? = some q) : ActInv e i 0 ((qc7 x e).setP i (qjk e q)) := by
 have hlt := (List.getElem?_eq_some_iff.1 hq).1
 obtain ⟨p1, p2, p3, p4, p5⟩ := h.proc q (List.mem_of_getElem? hq)
 refine ⟨rfl, ⟨qjk e q, by simp only [Ex.setP, qc7]; rw [List.getElem?_set_self hlt], ?_⟩, by simp only [Ex.setP, qc7, List.length_set]; exact h.procs, Nat.le_refl _, Nat.le_refl _⟩
 unfold qjk
 by_cases k : e.kind = 2
 ·rw [if_pos k]; exact h.arg k
 ·rw [if_neg k]; exact ⟨p3, p4⟩
theorem qyr (q : Pr) : (qjk e q).prog = q.prog := by unfold qjk; split <;> rfl
theorem Exec_run (h : qus c x e) {q : Pr} (ha : qmy x e = some q) :
  qa4 (evL T) qej [(.agg [(.fsl ((c.lps).map lpC) false), (.fsl ((c.progs).map qc1) false), (ii c.look), (ii c.fin), (ii c.cap)]), (.agg [(ii x.r0), (ii x.r1), (.fsl ((x.procs).map Pr.r) false), (ii x.sum)]), (.agg [(ii e.time), (.fsl ((e.key).map qb9) false), (ii e.lp), (ii e.kind), (ii e.proc), (ii e.arg)])] = some (.tup [(.agg [(ii ((q4j (qq1 c x e q)).r0)), (ii ((q4j (qq1 c x e q)).r1)), (.fsl (((q4j (qq1 c x e q)).procs).map Pr.r) false), (ii ((q4j (qq1 c x e q)).sum))]), (.fsl (((qq1 c x e q).out).map Evt.r) false), (.fsl (((qq1 c x e q).gone).map qfz) false), (bb ((qq1 c x e q).over))]) := by
 unfold qmy at ha
 split at ha
 case isFalse => cases ha
 rename_i hc
 obtain ⟨hkind, h0⟩ := hc
 obtain ⟨i, hi⟩ : ∃ i : Nat, e.proc = i := ⟨_, (Int.toNat_of_nonneg h0).symm⟩
 have hin : e.proc.toNat = i := by omega
 rw [hin, Option.bind_eq_some_iff] at ha
 obtain ⟨q', hq, ha⟩ := ha
 split at ha
 case isFalse => cases ha
 rename_i hal
 cases ha
 have hlt := (List.getElem?_eq_some_iff.1 hq).1
 obtain ⟨p1, p2, p3, p4, p5⟩ := h.proc q (List.mem_of_getElem? hq)
 obtain ⟨p, hp⟩ : ∃ p, c.progs[q.prog.toNat]? = some p := ⟨_, List.getElem?_eq_getElem (by omega)⟩
 obtain ⟨pl, pok⟩ := h.prog p (List.mem_of_getElem? hp)
 have hinv := qyq c x e h hi hq
 obtain ⟨gp, gc, gg, hact, hend⟩ := q5v x.r0 x.r1 x.sum x.procs.length e i p false h.key hi pl pok ((qc7 x e).setP i (qjk e q)) 0 0 0 hinv
 have hrun : qq1 c x e q = qlv p i 16 ((qc7 x e).setP i (qjk e q)) := by unfold qq1; rw [hin, hp]; rfl
 rw [hrun]
 generalize qlv p i 16 ((qc7 x e).setP i (qjk e q)) = F at hact hend
 have hcl := q1n x.procs false (by have := h.procs; omega)
 have h1 : ¬ e.proc < 0 := by omega
 have h2 : ¬ e.proc ≥ (x.procs.length : Int) := by omega
 have h9 : ((i : Int)).toNat = i := Int.toNat_natCast i
 have h3 : ¬ e.kind = 3 := by omega
 have s0 := q64 x.r0 x.r1 x.sum x.procs.length (qc7 x e) 0 0 0 i hi hlt
 have hset : (x.procs.map Pr.r).set i [(ii ((qjk e q).prog)), (ii ((qjk e q).pc)), (bb ((qjk e q).alive)), (.fsl (((qjk e q).timer).map qb9) false)] = (x.procs.set i (qjk e q)).map Pr.r := by rw [List.map_set]; rfl
 have hl : (x.procs.set i (qjk e q)).length = x.procs.length := by simp
 have hq2 : (x.procs.set i (qjk e q))[i]? = some (qjk e q) := by rw [List.getElem?_set_self hlt]
 have s1 := q64 x.r0 x.r1 x.sum x.procs.length ((qc7 x e).setP i (qjk e q)) 0 0 0 i hi (by simp only [Ex.setP, qc7, List.length_set]; exact hlt)
 rw [hi] at h0 h1 h2
 simp only [qc7, List.map_nil, zgb, hi] at s0
 simp only [qc7, Ex.setP, List.map_nil, zgb, hl, hi] at s1 hact
 have ft : ∀ {τ : Type} (l : List τ) (f : τ → List AV), List.take l.length (l.map f) = l.map f := fun l f => List.take_of_length_le (by simp)
 have hpr := qyr e q
 rw [qa4, qx qla qks]
 rcases hkind with k1 | k2
 ·have hwk : qjk e q = q := by unfold qjk; rw [if_neg (by omega)]
  have hss : x.procs.set i q = x.procs := by
   obtain ⟨hlt', hge⟩ := List.getElem?_eq_some_iff.1 hq
   rw [← hge, List.set_getElem_self]
  rw [hwk, hss] at hact
  have k2 : ¬ e.kind = 2 := by omega
  have k3 : ¬ (1 : Int) = 3 := by decide
  have k4 : ¬ (1 : Int) = 2 := by decide
  simp only [k1] at s0 hact ⊢
  simp only [qb3, k3, k4, h0, h1, h2, hi, hq, hal, hcl, s0, p1, hp, hact, ft, q4j, zgr, zgq, zgt, Pr.r, qc1, qau, qv, qbs, Nat.reduceLT, Nat.reduceLeDiff, qn, Ev.exec, qb, qe, qc, qps, qd3, q2k, Ev.AV.shift, qai, q6t, Ev.evs, Ev.Opnd.ev, Ev.Env.get, Ev.Env.set, Ev.Env.unset, Ev.look, qo, qk, qae, qg6, Ev.AV.cells, Ev.AV.uc, qy, Ev.AV.plain, qam, qbx, ql, qch, qm, qab, qaj, Ev.kill, qah, qd, qa1, qbd, qba, qu, qbn, qnh, Ev.AV.obj?, qj, qh, qal, q3e, qvm, qgx, qe8, qgi, qem, qfw, zgi, ↓qs, ↓reduceIte, zga, zgb, zgd, zge, zgc, zgo, zfe, zgf, zgg, List.drop_nil, zgm, zgl, zgn, zgj, zgk, zgh, Nat.reduceAdd, Nat.reduceEqDiff, Nat.reduceBEq, Nat.reduceLT, Nat.reduceLeDiff, reduceCtorEq, zgw, zfc, Bool.and_true, Bool.not_true, Bool.not_false, zfa, zgx, and_true, ne_eq, zfb, not_true_eq_false, zff, zfd, Nat.add_zero, zgu, Nat.le_refl, zgy, Bool.and_false]
  done
 ·have k1 : ¬ (2 : Int) = 1 := by decide
  have k3 : ¬ (2 : Int) = 3 := by decide
  have hkl := h.key
  have hwk : qjk e q = { q with pc := e.arg, timer := if q.timer = e.key then [] else q.timer } := by unfold qjk; rw [if_pos k2]
  obtain ⟨qp, qpc, qa, qt⟩ := q
  dsimp only at *
  subst hal
  have heq := qr3 qt e.key false false (by omega) (by omega)
  have hset1 : (x.procs.map Pr.r).set i [(ii qp), (ii e.arg), (bb true), (.fsl ((qt).map qb9) false)] = (x.procs.set i ⟨qp, e.arg, true, qt⟩).map Pr.r := by rw [List.map_set]; rfl
  have hg1 : (x.procs.set i ⟨qp, e.arg, true, qt⟩)[i]? = some ⟨qp, e.arg, true, qt⟩ := by rw [List.getElem?_set_self hlt]
  have hset2 : ((x.procs.set i ⟨qp, e.arg, true, qt⟩).map Pr.r).set i [(ii qp), (ii e.arg), (bb true), .fsl [] false] = (x.procs.set i ⟨qp, e.arg, true, []⟩).map Pr.r := by
   have : x.procs.set i ⟨qp, e.arg, true, []⟩ = (x.procs.set i ⟨qp, e.arg, true, qt⟩).set i ⟨qp, e.arg, true, []⟩ := by rw [List.set_set]
   rw [this, List.map_set (l := x.procs.set i ⟨qp, e.arg, true, qt⟩)]; rfl
  have hl1 : (x.procs.set i ⟨qp, e.arg, true, qt⟩).length = x.procs.length := by simp
  rw [hwk] at s1 hact hq2
  simp only [k2] at s0 s1 hact ⊢
  by_cases ht : qt = e.key
  ·simp only [ht, if_true] at s1 hact hq2
   simp only [ht, zgv] at heq
   simp only [ht] at hset1 hset2 hg1
   simp only [qb3, k1, k3, h0, h1, h2, hi, hq, hcl, s0, s1, p1, hp, hact, ft, heq, hset1, hset2, hg1, hq2, ht, q4j, zgr, zgq, zgt, Pr.r, qc1, qag, qau, qv, qbs, Nat.reduceLT, Nat.reduceLeDiff, qn, Ev.exec, qb, qe, qc, qa5, qps, qd3, q2k, Ev.AV.shift, qai, q6t, Ev.evs, Ev.Opnd.ev, Ev.Env.get, Ev.Env.set, Ev.look, qo, qk, qae, qg6, Ev.AV.cells, Ev.AV.uc, qy, Ev.AV.plain, qam, qbx, ql, qch, qm, qab, qaj, Ev.kill, qah, qd, qa1, qbd, qba, qu, qbn, qnh, Ev.AV.obj?, qj, qh, qal, q3e, qvm, qgx, qe8, qgi, qem, qfw, zgi, ↓qs, ↓reduceIte, zga, zgb, zgd, zge, zgc, zgo, zfe, zgf, zgg, List.drop_nil, zgm, zgl, zgn, zgj, zgk, zgh, Nat.reduceAdd, Nat.reduceEqDiff, Nat.reduceBEq, Nat.reduceLT, Nat.reduceLeDiff, reduceCtorEq, zgv, zgw, zfc, Bool.and_true, Bool.not_true, Bool.not_false, zfa, zgx, and_true, ne_eq, zfb, not_true_eq_false, zff, zfd, Nat.add_zero, zgu, Nat.le_refl, zgy, Bool.and_false]
   done
  ·simp only [ht, if_false] at s1 hact hq2
   simp only [ht, zgw] at heq
   simp only [qb3, k1, k3, h0, h1, h2, hi, hq, hcl, s0, s1, p1, hp, hact, ft, heq, hset1, hg1, q4j, zgr, zgq, zgt, Pr.r, qc1, qag, qau, qv, qbs, Nat.reduceLT, Nat.reduceLeDiff, qn, Ev.exec, qb, qe, qc, qa5, qps, qd3, q2k, Ev.AV.shift, qai, q6t, Ev.evs, Ev.Opnd.ev, Ev.Env.get, Ev.Env.set, Ev.look, qo, qk, qae, qg6, Ev.AV.cells, Ev.AV.uc, qy, Ev.AV.plain, qam, qbx, ql, qch, qm, qab, qaj, Ev.kill, qah, qd, qa1, qbd, qba, qu, qbn, qnh, Ev.AV.obj?, qj, qh, qal, q3e, qvm, qgx, qe8, qgi, qem, qfw, zgi, ↓qs, ↓reduceIte, zga, zgb, zgd, zge, zgc, zgo, zfe, zgf, zgg, List.drop_nil, zgm, zgl, zgn, zgj, zgk, zgh, Nat.reduceAdd, Nat.reduceEqDiff, Nat.reduceBEq, Nat.reduceLT, Nat.reduceLeDiff, reduceCtorEq, zgv, zgw, zfc, Bool.and_true, Bool.not_true, Bool.not_false, zfa, zgx, and_true, ne_eq, zfb, not_true_eq_false, zff, zfd, Nat.add_zero, zgu, Nat.le_refl, zgy, Bool.and_false]
   done
end
set_option maxRecDepth 10000
structure Lp.Short (x : Lp) : Prop where
 len : x.procs.length ≤ 9223372036854775807
 timer : ∀ q ∈ x.procs, q.timer.length ≤ 9223372036854775807
section
variable (a b : Lp) (cf df : Bool)
end
def lpF (x : Lp × Bool) : List AV := [(ii x.1.r0), (ii x.1.r1), (.fsl ((x.1.procs).map Pr.r) x.2), (ii x.1.sum)]
theorem lpF_lo (n : Nat) (x : Lp × Bool) : los n (lpF x) = true := by simp only [lpF, qau, qa1, qu, qj, qh, zfc, zgy]
theorem lpF_pl (x : Lp × Bool) : (lpF x).length = 4 ∧ qy (lpF x) = true := ⟨rfl, rfl⟩
theorem qqr (n : Nat) (l : List (Lp × Bool)) : qg9 n (l.map lpF) = true := ql6 (lpF_lo n) l
theorem lpFs_ok (l : List (Lp × Bool)) : qc3 4 (l.map lpF) = true := qme lpF_pl l
section
variable (a b : List (Lp × Bool)) (c d : Bool)
end
set_option maxRecDepth 10000
section
variable (a b : Lp)
end
set_option maxRecDepth 10000
theorem q1d (l : List Int) (c : Bool) (n : Int) (h : l.length ≤ 100000) : qa4 (evL T) qjb [(.fsl ((l).map qb9) c), (ii n)] = some (.fsl ((l ++ [n]).map qb9) false) := by
 have h' : (l.length + 1) * 8 ≤ 140737488355328 := by omega
 have h2 : l.length * 8 ≤ 140737488355328 := by omega
 have htl : List.take l.length (l.map qb9) = l.map qb9 := List.take_of_length_le (by simp)
 have htk : ∀ e : List AV, List.take (l.length + 1) (l.map qb9 ++ [e]) = l.map qb9 ++ [e] := fun e => List.take_of_length_le (by simp)
 have hr : (l ++ [n]).map qb9 = l.map qb9 ++ [[(ii n)]] := by rw [List.map_append]; rfl
 rw [qa4, qx q0e qxh]
 rw [hr]
 simp only [qnd, h', h2, htl, htk, qj8, qabt, qag, qn, Ev.exec, qb, qe, qc, qai, qn9, Ev.Opnd.ev, Ev.Env.get, Ev.Env.set, Ev.look, qo, qb0, qf6, Ev.AV.cells, Ev.AV.uc, qy, Ev.AV.plain, qm, qab, qaj, Ev.kill, qah, qd, qa1, qbn, qj, qh, qac, qao, qbl, qa9, qgx, qe8, List.replicate_one, List.replicate_zero, zgi, ↓qs, ↓reduceIte, zga, zgb, zgp, zgd, zgo, zgg, zgl, zgj, Nat.reduceAdd, Nat.reduceEqDiff, Nat.reduceMul, Nat.reduceLT, Nat.reduceLeDiff, Nat.reducePow, reduceCtorEq, zgv, zgw, zfc, zfa, zgx, and_true, ne_eq, zfb, not_true_eq_false, zff, zfd, zgu, Nat.le_refl, zgy, and_false]
theorem qoz (l : List (List Int)) (k : List Int) (c : Bool) (h : l.length ≤ 1000) : qa4 (evL T) qe0 [(.fsl ((l).map qfz) c), (.fsl ((k).map qb9) false)] = some (.fsl ((l ++ [k]).map qfz) false) := by
 have h' : (l.length + 1) * 24 ≤ 140737488355328 := by omega
 have h2 : l.length * 24 ≤ 140737488355328 := by omega
 have htl : List.take l.length (l.map qfz) = l.map qfz := List.take_of_length_le (by simp)
 have htk : ∀ e : List AV, List.take (l.length + 1) (l.map qfz ++ [e]) = l.map qfz ++ [e] := fun e => List.take_of_length_le (by simp)
 have hr : (l ++ [k]).map qfz = l.map qfz ++ [[(.fsl ((k).map qb9) false)]] := by rw [List.map_append]; rfl
 rw [qa4, qx qtt qsu]
 rw [hr]
 simp only [qkm, h', h2, htl, htk, qj8, keys_ok, qbs, qag, qn, Ev.exec, qb, qe, qc, qai, qn9, Ev.Opnd.ev, Ev.Env.get, Ev.Env.set, Ev.look, qo, qb0, qf6, Ev.AV.cells, Ev.AV.uc, qy, Ev.AV.plain, qm, qab, qaj, Ev.kill, qah, qd, qu, qbn, qj, qh, qac, qao, qbl, qa9, qgx, qe8, List.replicate_one, List.replicate_zero, zgi, ↓qs, ↓reduceIte, zga, zgb, zgp, zgd, zgo, zgg, zgl, zgj, Nat.reduceAdd, Nat.reduceEqDiff, Nat.reduceMul, Nat.reduceLT, Nat.reduceLeDiff, Nat.reducePow, reduceCtorEq, zgv, zgw, zfc, zfa, zgx, and_true, ne_eq, zfb, not_true_eq_false, zff, zfd, zgu, Nat.le_refl, zgy, and_false]
section
variable (x : Ex)
theorem qeh (h : x.procs.length ≤ 1000) (i : Nat) (hi : i < x.procs.length) (q : Pr) : qa4 (evL T) qey [(.agg [(ii x.r0), (ii x.r1), (.fsl ((x.procs).map Pr.r) false), (ii x.sum), (ii x.ev.time), (.fsl ((x.ev.key).map qb9) false), (ii x.ev.lp), (ii x.ev.kind), (ii x.ev.proc), (ii x.ev.arg), (.fsl ((x.out).map Evt.r) false), (.fsl ((x.gone).map qfz) false), (ii x.n), (bb x.over)]), (ii i), (.agg [(ii q.prog), (ii q.pc), (bb q.alive), (.fsl ((q.timer).map qb9) false)])] = some (.agg [(ii ((x.setP i q).r0)), (ii ((x.setP i q).r1)), (.fsl (((x.setP i q).procs).map Pr.r) false), (ii ((x.setP i q).sum)), (ii ((x.setP i q).ev.time)), (.fsl (((x.setP i q).ev.key).map qb9) false), (ii ((x.setP i q).ev.lp)), (ii ((x.setP i q).ev.kind)), (ii ((x.setP i q).ev.proc)), (ii ((x.setP i q).ev.arg)), (.fsl (((x.setP i q).out).map Evt.r) false), (.fsl (((x.setP i q).gone).map qfz) false), (ii ((x.setP i q).n)), (bb ((x.setP i q).over))]) := by
 have h2 : x.procs.length * 48 ≤ 140737488355328 := by omega
 have htl : ∀ e : List AV, List.take x.procs.length ((x.procs.map Pr.r).set i e) = (x.procs.map Pr.r).set i e := fun e => List.take_of_length_le (by simp)
 have hset : (x.procs.map Pr.r).set i [(ii q.prog), (ii q.pc), (bb q.alive), (.fsl ((q.timer).map qb9) false)] = (x.procs.set i q).map Pr.r := by rw [List.map_set]; rfl
 obtain ⟨q0, hq⟩ : ∃ q0, x.procs[i]? = some q0 := ⟨_, List.getElem?_eq_getElem hi⟩
 have ft : ∀ {τ : Type} (l : List τ) (f : τ → List AV), List.take l.length (l.map f) = l.map f := fun l f => List.take_of_length_le (by simp)
 have htl2 : List.take x.procs.length ((x.procs.set i q).map Pr.r) = (x.procs.set i q).map Pr.r := List.take_of_length_le (by simp)
 unfold Ex.setP
 rw [qa4, qx q3x q1v]
 simp only [qqf, htl2, h2, hi, hq, hset, q35, Pr.r, zgs, zgr, zgq, zgt, qag, qau, qv, qbs, Nat.reduceLT, Nat.reduceLeDiff, qn, Ev.exec, qb, qe, qc, qai, Ev.Opnd.ev, Ev.Env.get, Ev.Env.set, Ev.look, qo, qk, qb0, qae, qf6, Ev.AV.cells, Ev.AV.uc, qy, Ev.AV.plain, qm, qab, qaj, Ev.kill, qah, qd, qa1, qbd, qu, qj, qh, qal, List.length_set, List.replicate_zero, zgi, ↓qs, ↓reduceIte, zga, zgb, zgd, zge, zgc, zgo, zfe, zgf, zgg, List.drop_nil, zgm, zgl, zgn, zgj, zgk, zgh, Nat.reduceAdd, Nat.reduceEqDiff, Nat.reduceMul, Nat.reduceLT, Nat.reduceLeDiff, Nat.reducePow, reduceCtorEq, zfc, zfa, zgx, ne_eq, zfb, not_true_eq_false, zff, zfd, Nat.add_zero, Nat.le_refl, zgy, and_false]
theorem qkd (h : x.Small) (d : Int) (t0 lp k p a : Int) (ks : List Int) :
  qa4 (evL T) qe9 [(.agg [(ii x.r0), (ii x.r1), (.fsl ((x.procs).map Pr.r) false), (ii x.sum), (ii x.ev.time), (.fsl ((x.ev.key).map qb9) false), (ii x.ev.lp), (ii x.ev.kind), (ii x.ev.proc), (ii x.ev.arg), (.fsl ((x.out).map Evt.r) false), (.fsl ((x.gone).map qfz) false), (ii x.n), (bb x.over)]), (ii d), .agg [(ii t0), (.fsl ((ks).map qb9) false), (ii lp), (ii k), (ii p), (ii a)]] = some (.tup [(.agg [(ii ((x.create d ⟨t0, ks, lp, k, p, a⟩).r0)), (ii ((x.create d ⟨t0, ks, lp, k, p, a⟩).r1)), (.fsl (((x.create d ⟨t0, ks, lp, k, p, a⟩).procs).map Pr.r) false), (ii ((x.create d ⟨t0, ks, lp, k, p, a⟩).sum)), (ii ((x.create d ⟨t0, ks, lp, k, p, a⟩).ev.time)), (.fsl (((x.create d ⟨t0, ks, lp, k, p, a⟩).ev.key).map qb9) false), (ii ((x.create d ⟨t0, ks, lp, k, p, a⟩).ev.lp)), (ii ((x.create d ⟨t0, ks, lp, k, p, a⟩).ev.kind)), (ii ((x.create d ⟨t0, ks, lp, k, p, a⟩).ev.proc)), (ii ((x.create d ⟨t0, ks, lp, k, p, a⟩).ev.arg)), (.fsl (((x.create d ⟨t0, ks, lp, k, p, a⟩).out).map Evt.r) false), (.fsl (((x.create d ⟨t0, ks, lp, k, p, a⟩).gone).map qfz) false), (ii ((x.create d ⟨t0, ks, lp, k, p, a⟩).n)), (bb ((x.create d ⟨t0, ks, lp, k, p, a⟩).over))]), (.fsl ((x.kid).map qb9) false)]) := by
 have hk := q1d x.ev.key false x.n h.key
 have hs : (x.out.length + 1) * 64 ≤ 140737488355328 := by have := h.out; omega
 have hs2 : x.out.length * 64 ≤ 140737488355328 := by have := h.out; omega
 have htl : List.take x.out.length (x.out.map Evt.r) = x.out.map Evt.r := List.take_of_length_le (by simp)
 have htk : ∀ e : List AV, List.take (x.out.length + 1) (x.out.map Evt.r ++ [e]) = x.out.map Evt.r ++ [e] := fun e => List.take_of_length_le (by simp)
 unfold Ex.create Ex.kid
 rw [qa4, qx qxx qwj]
 by_cases ho : w64 (x.ev.time + d) > 1152921504606846976
 ·have ho' : IntKind.i64.wrap (x.ev.time + d) > 1152921504606846976 := ho
  simp only [ho, if_true]
  simp only [qk5, hk, ho', qag, qau, qv, qbs, Nat.reduceLeDiff, qn, Ev.exec, qb, qe, qc, qa5, qai, Ev.evs, Ev.Opnd.ev, Ev.Env.get, Ev.Env.set, Ev.look, qo, qk, qae, Ev.AV.cells, Ev.AV.uc, qy, Ev.AV.plain, qaf, qas, qm, qab, qaj, Ev.kill, qah, qd, qa1, qbd, qba, qu, qnh, Ev.AV.obj?, qj, qh, qal, ↓qs, ↓reduceIte, zga, zgb, zgd, zge, zgc, zgo, zfe, zgf, zgg, List.drop_nil, zgm, zgl, zgn, zgj, zgk, zgh, Nat.reduceAdd, Nat.reduceEqDiff, Nat.reduceBEq, Nat.reduceLeDiff, reduceCtorEq, zgv, zfc, Bool.not_false, zfa, zgx, ne_eq, zfb, zff, zfd, Nat.add_zero, Nat.le_refl, zgy]
  done
 ·have ho' : ¬ IntKind.i64.wrap (x.ev.time + d) > 1152921504606846976 := ho
  simp only [ho, if_false]
  have hr : ∀ e : Evt, (x.out ++ [e]).map Evt.r = x.out.map Evt.r ++ [e.r] := fun e => by rw [List.map_append]; rfl
  simp only [qk5, hk, ho', hs, hs2, htl, htk, hr, qj8, qfy, Evt.r, qag, qau, qv, qbs, Nat.reduceLT, Nat.reduceLeDiff, qn, Ev.exec, qb, qe, qc, qa5, qai, qn9, Ev.evs, Ev.Opnd.ev, Ev.Env.get, Ev.Env.set, Ev.look, qo, qk, qb0, qae, qf6, Ev.AV.cells, Ev.AV.uc, qy, Ev.AV.plain, qaf, qas, qm, qab, qaj, Ev.kill, qah, qd, qa1, qbd, qba, qu, qnh, Ev.AV.obj?, qj, qh, qac, qao, qbl, qa9, qal, List.replicate_one, List.replicate_zero, zgi, ↓qs, ↓reduceIte, zga, zgb, zgp, zgd, zge, zgc, zgo, zfe, zgf, zgg, List.drop_nil, zgm, zgl, zgn, zgj, zgk, zgh, Nat.reduceAdd, Nat.reduceEqDiff, Nat.reduceBEq, Nat.reduceMul, Nat.reduceLT, Nat.reduceLeDiff, Nat.reducePow, reduceCtorEq, zgv, zgw, zfc, Bool.not_false, zfa, zgx, ne_eq, zfb, not_true_eq_false, zff, zfd, Nat.add_zero, zgu, Nat.le_refl, zgy, and_false]
  done
end
set_option maxRecDepth 10000
def Pr.inc (q : Pr) : Pr := { q with pc := w64 (q.pc + 1) }
section
variable (x : Ex) (i : Nat) (op : OpI) (q : Pr)
theorem q8d (h : x.Small) (hq : x.procs[i]? = some q) (h1 : op.code = 1) :
  qa4 (evL T) qdq [(.agg [(ii x.r0), (ii x.r1), (.fsl ((x.procs).map Pr.r) false), (ii x.sum), (ii x.ev.time), (.fsl ((x.ev.key).map qb9) false), (ii x.ev.lp), (ii x.ev.kind), (ii x.ev.proc), (ii x.ev.arg), (.fsl ((x.out).map Evt.r) false), (.fsl ((x.gone).map qfz) false), (ii x.n), (bb x.over)]), (ii i), (.agg [(ii op.code), (ii op.a), (ii op.b), (ii op.c)])] = some (.tup [(.agg [(ii (((x.create op.a ⟨0, [], x.ev.lp, 1, i, 0⟩).setP i q.inc).r0)), (ii (((x.create op.a ⟨0, [], x.ev.lp, 1, i, 0⟩).setP i q.inc).r1)), (.fsl ((((x.create op.a ⟨0, [], x.ev.lp, 1, i, 0⟩).setP i q.inc).procs).map Pr.r) false), (ii (((x.create op.a ⟨0, [], x.ev.lp, 1, i, 0⟩).setP i q.inc).sum)), (ii (((x.create op.a ⟨0, [], x.ev.lp, 1, i, 0⟩).setP i q.inc).ev.time)), (.fsl ((((x.create op.a ⟨0, [], x.ev.lp, 1, i, 0⟩).setP i q.inc).ev.key).map qb9) false), (ii (((x.create op.a ⟨0, [], x.ev.lp, 1, i, 0⟩).setP i q.inc).ev.lp)), (ii (((x.create op.a ⟨0, [], x.ev.lp, 1, i, 0⟩).setP i q.inc).ev.kind)), (ii (((x.create op.a ⟨0, [], x.ev.lp, 1, i, 0⟩).setP i q.inc).ev.proc)), (ii (((x.create op.a ⟨0, [], x.ev.lp, 1, i, 0⟩).setP i q.inc).ev.arg)), (.fsl ((((x.create op.a ⟨0, [], x.ev.lp, 1, i, 0⟩).setP i q.inc).out).map Evt.r) false), (.fsl ((((x.create op.a ⟨0, [], x.ev.lp, 1, i, 0⟩).setP i q.inc).gone).map qfz) false), (ii (((x.create op.a ⟨0, [], x.ev.lp, 1, i, 0⟩).setP i q.inc).n)), (bb (((x.create op.a ⟨0, [], x.ev.lp, 1, i, 0⟩).setP i q.inc).over))]), (bb true)]) := by
 have hl := (List.getElem?_eq_some_iff.1 hq).1
 have hc := qkd x h op.a 0 x.ev.lp 1 i 0 []
 have hp := qeh (x.create op.a ⟨0, [], x.ev.lp, 1, i, 0⟩) h.procs i hl q.inc
 simp only [List.map_nil, Pr.inc, w64] at hc hp ⊢
 rw [qa4, qx qdw qdi]
 simp only [qdy, h1, hq, hc, hp, Pr.r, zgs, zgr, zgq, zgt, qag, qau, qv, qbs, Nat.reduceLeDiff, qn, Ev.exec, qb, qe, qc, qa5, qai, Ev.evs, Ev.Opnd.ev, Ev.Env.get, Ev.Env.set, Ev.look, qo, qk, qae, qg6, Ev.AV.cells, Ev.AV.uc, qy, Ev.AV.plain, qaf, qam, qm, qab, qaj, Ev.kill, qah, qd, qa1, qbd, qba, qu, qj, qh, qac, qal, ↓qs, ↓reduceIte, zga, zgb, zgd, zge, zgc, zgo, zfe, zgf, zgg, List.drop_nil, zgm, zgl, zgn, zgj, zgk, zgh, Nat.reduceAdd, Nat.reduceEqDiff, Nat.reduceLeDiff, reduceCtorEq, zgv, zfc, zfa, zgx, ne_eq, zfb, zff, zfd, Nat.add_zero, Nat.le_refl, zgy]
theorem q82 (h : x.Small) (hq : x.procs[i]? = some q) (h1 : op.code = 2) :
  qa4 (evL T) qdq [(.agg [(ii x.r0), (ii x.r1), (.fsl ((x.procs).map Pr.r) false), (ii x.sum), (ii x.ev.time), (.fsl ((x.ev.key).map qb9) false), (ii x.ev.lp), (ii x.ev.kind), (ii x.ev.proc), (ii x.ev.arg), (.fsl ((x.out).map Evt.r) false), (.fsl ((x.gone).map qfz) false), (ii x.n), (bb x.over)]), (ii i), (.agg [(ii op.code), (ii op.a), (ii op.b), (ii op.c)])] = some (.tup [(.agg [(ii (((x.create op.c ⟨0, [], op.a, 3, 0, op.b⟩).setP i q.inc).r0)), (ii (((x.create op.c ⟨0, [], op.a, 3, 0, op.b⟩).setP i q.inc).r1)), (.fsl ((((x.create op.c ⟨0, [], op.a, 3, 0, op.b⟩).setP i q.inc).procs).map Pr.r) false), (ii (((x.create op.c ⟨0, [], op.a, 3, 0, op.b⟩).setP i q.inc).sum)), (ii (((x.create op.c ⟨0, [], op.a, 3, 0, op.b⟩).setP i q.inc).ev.time)), (.fsl ((((x.create op.c ⟨0, [], op.a, 3, 0, op.b⟩).setP i q.inc).ev.key).map qb9) false), (ii (((x.create op.c ⟨0, [], op.a, 3, 0, op.b⟩).setP i q.inc).ev.lp)), (ii (((x.create op.c ⟨0, [], op.a, 3, 0, op.b⟩).setP i q.inc).ev.kind)), (ii (((x.create op.c ⟨0, [], op.a, 3, 0, op.b⟩).setP i q.inc).ev.proc)), (ii (((x.create op.c ⟨0, [], op.a, 3, 0, op.b⟩).setP i q.inc).ev.arg)), (.fsl ((((x.create op.c ⟨0, [], op.a, 3, 0, op.b⟩).setP i q.inc).out).map Evt.r) false), (.fsl ((((x.create op.c ⟨0, [], op.a, 3, 0, op.b⟩).setP i q.inc).gone).map qfz) false), (ii (((x.create op.c ⟨0, [], op.a, 3, 0, op.b⟩).setP i q.inc).n)), (bb (((x.create op.c ⟨0, [], op.a, 3, 0, op.b⟩).setP i q.inc).over))]), (bb false)]) := by
 have hl := (List.getElem?_eq_some_iff.1 hq).1
 have hc := qkd x h op.c 0 op.a 3 0 op.b []
 have hp := qeh (x.create op.c ⟨0, [], op.a, 3, 0, op.b⟩) h.procs i hl q.inc
 simp only [List.map_nil, Pr.inc, w64] at hc hp ⊢
 have k1 : ¬ (2 : Int) = 1 := by decide
 rw [qa4, qx qdw qdi]
 simp only [qdy, h1, k1, hq, hc, hp, Pr.r, zgs, zgr, zgq, zgt, qag, qau, qv, qbs, Nat.reduceLeDiff, qn, Ev.exec, qb, qe, qc, qa5, qai, Ev.evs, Ev.Opnd.ev, Ev.Env.get, Ev.Env.set, Ev.look, qo, qk, qae, qg6, Ev.AV.cells, Ev.AV.uc, qy, Ev.AV.plain, qaf, qam, qm, qab, qaj, Ev.kill, qah, qd, qa1, qbd, qba, qu, qj, qh, qac, qal, ↓qs, ↓reduceIte, zga, zgb, zgd, zge, zgc, zgo, zfe, zgf, zgg, List.drop_nil, zgm, zgl, zgn, zgj, zgk, zgh, Nat.reduceAdd, Nat.reduceEqDiff, Nat.reduceLeDiff, reduceCtorEq, zgv, zgw, zfc, zfa, zgx, ne_eq, zfb, zff, zfd, Nat.add_zero, Nat.le_refl, zgy]
theorem q52 (h : x.Small) (hg : x.gone.length < 1000) (hq : x.procs[i]? = some q) (h1 : op.code = 3) :
  qa4 (evL T) qdq [(.agg [(ii x.r0), (ii x.r1), (.fsl ((x.procs).map Pr.r) false), (ii x.sum), (ii x.ev.time), (.fsl ((x.ev.key).map qb9) false), (ii x.ev.lp), (ii x.ev.kind), (ii x.ev.proc), (ii x.ev.arg), (.fsl ((x.out).map Evt.r) false), (.fsl ((x.gone).map qfz) false), (ii x.n), (bb x.over)]), (ii i), (.agg [(ii op.code), (ii op.a), (ii op.b), (ii op.c)])] = some (.tup [(.agg [(ii (((({ x with gone := if 0 < q.timer.length then x.gone ++ [q.timer] else x.gone } : Ex).create op.a ⟨0, [], x.ev.lp, 2, i, op.b⟩).setP i { q.inc with timer := x.kid }).r0)), (ii (((({ x with gone := if 0 < q.timer.length then x.gone ++ [q.timer] else x.gone } : Ex).create op.a ⟨0, [], x.ev.lp, 2, i, op.b⟩).setP i { q.inc with timer := x.kid }).r1)), (.fsl ((((({ x with gone := if 0 < q.timer.length then x.gone ++ [q.timer] else x.gone } : Ex).create op.a ⟨0, [], x.ev.lp, 2, i, op.b⟩).setP i { q.inc with timer := x.kid }).procs).map Pr.r) false), (ii (((({ x with gone := if 0 < q.timer.length then x.gone ++ [q.timer] else x.gone } : Ex).create op.a ⟨0, [], x.ev.lp, 2, i, op.b⟩).setP i { q.inc with timer := x.kid }).sum)), (ii (((({ x with gone := if 0 < q.timer.length then x.gone ++ [q.timer] else x.gone } : Ex).create op.a ⟨0, [], x.ev.lp, 2, i, op.b⟩).setP i { q.inc with timer := x.kid }).ev.time)), (.fsl ((((({ x with gone := if 0 < q.timer.length then x.gone ++ [q.timer] else x.gone } : Ex).create op.a ⟨0, [], x.ev.lp, 2, i, op.b⟩).setP i { q.inc with timer := x.kid }).ev.key).map qb9) false), (ii (((({ x with gone := if 0 < q.timer.length then x.gone ++ [q.timer] else x.gone } : Ex).create op.a ⟨0, [], x.ev.lp, 2, i, op.b⟩).setP i { q.inc with timer := x.kid }).ev.lp)), (ii (((({ x with gone := if 0 < q.timer.length then x.gone ++ [q.timer] else x.gone } : Ex).create op.a ⟨0, [], x.ev.lp, 2, i, op.b⟩).setP i { q.inc with timer := x.kid }).ev.kind)), (ii (((({ x with gone := if 0 < q.timer.length then x.gone ++ [q.timer] else x.gone } : Ex).create op.a ⟨0, [], x.ev.lp, 2, i, op.b⟩).setP i { q.inc with timer := x.kid }).ev.proc)), (ii (((({ x with gone := if 0 < q.timer.length then x.gone ++ [q.timer] else x.gone } : Ex).create op.a ⟨0, [], x.ev.lp, 2, i, op.b⟩).setP i { q.inc with timer := x.kid }).ev.arg)), (.fsl ((((({ x with gone := if 0 < q.timer.length then x.gone ++ [q.timer] else x.gone } : Ex).create op.a ⟨0, [], x.ev.lp, 2, i, op.b⟩).setP i { q.inc with timer := x.kid }).out).map Evt.r) false), (.fsl ((((({ x with gone := if 0 < q.timer.length then x.gone ++ [q.timer] else x.gone } : Ex).create op.a ⟨0, [], x.ev.lp, 2, i, op.b⟩).setP i { q.inc with timer := x.kid }).gone).map qfz) false), (ii (((({ x with gone := if 0 < q.timer.length then x.gone ++ [q.timer] else x.gone } : Ex).create op.a ⟨0, [], x.ev.lp, 2, i, op.b⟩).setP i { q.inc with timer := x.kid }).n)), (bb (((({ x with gone := if 0 < q.timer.length then x.gone ++ [q.timer] else x.gone } : Ex).create op.a ⟨0, [], x.ev.lp, 2, i, op.b⟩).setP i { q.inc with timer := x.kid }).over))]), (bb false)]) := by
 have hl := (List.getElem?_eq_some_iff.1 hq).1
 have k1 : ¬ (3 : Int) = 1 := by decide
 have k2 : ¬ (3 : Int) = 2 := by decide
 have ha := qoz x.gone q.timer false h.gone
 by_cases ht : 0 < q.timer.length
 ·have ht' : (q.timer.length : Int) > 0 := by omega
  have hc := qkd { x with gone := x.gone ++ [q.timer] } ⟨h.procs, h.out, by simp; omega, h.key⟩ op.a 0 x.ev.lp 2 i op.b []
  have hp := qeh (({ x with gone := x.gone ++ [q.timer] } : Ex).create op.a ⟨0, [], x.ev.lp, 2, i, op.b⟩) h.procs i hl { q.inc with timer := x.kid }
  rw [if_pos ht]
  simp only [List.map_nil, Pr.inc, Ex.kid, w64] at hc hp ⊢
  rw [qa4, qx qdw qdi]
  simp only [qdy, h1, k1, k2, ht', hq, hc, hp, ha, Pr.r, zgs, zgr, zgq, zgt, qag, qau, qv, qbs, Nat.reduceLeDiff, qn, Ev.exec, qb, qe, qc, qa5, qai, Ev.evs, Ev.Opnd.ev, Ev.Env.get, Ev.Env.set, Ev.look, qo, qk, qae, qg6, Ev.AV.cells, Ev.AV.uc, qy, Ev.AV.plain, qaf, qam, qas, qm, qab, qaj, Ev.kill, qah, qd, qa1, qbd, qba, qu, qj, qh, qac, qal, zgi, ↓qs, ↓reduceIte, zga, zgb, zgd, zge, zgc, zgo, zfe, zgf, zgg, List.drop_nil, zgm, zgl, zgn, zgj, zgk, zgh, Nat.reduceAdd, Nat.reduceEqDiff, Nat.reduceLeDiff, reduceCtorEq, zgv, zgw, zfc, zfa, zgx, ne_eq, zfb, zff, zfd, Nat.add_zero, Nat.le_refl, zgy]
 ·have ht' : ¬ (q.timer.length : Int) > 0 := by omega
  have hc := qkd x h op.a 0 x.ev.lp 2 i op.b []
  have hp := qeh (x.create op.a ⟨0, [], x.ev.lp, 2, i, op.b⟩) h.procs i hl { q.inc with timer := x.kid }
  rw [if_neg ht]
  simp only [List.map_nil, Pr.inc, Ex.kid, w64] at hc hp ⊢
  rw [qa4, qx qdw qdi]
  simp only [qdy, h1, k1, k2, ht', hq, hc, hp, Pr.r, zgs, zgr, zgq, zgt, qag, qau, qv, qbs, Nat.reduceLeDiff, qn, Ev.exec, qb, qe, qc, qa5, qai, Ev.evs, Ev.Opnd.ev, Ev.Env.get, Ev.Env.set, Ev.look, qo, qk, qae, qg6, Ev.AV.cells, Ev.AV.uc, qy, Ev.AV.plain, qaf, qam, qas, qm, qab, qaj, Ev.kill, qah, qd, qa1, qbd, qba, qu, qj, qh, qac, qal, zgi, ↓qs, ↓reduceIte, zga, zgb, zgd, zge, zgc, zgo, zfe, zgf, zgg, List.drop_nil, zgm, zgl, zgn, zgj, zgk, zgh, Nat.reduceAdd, Nat.reduceEqDiff, Nat.reduceLeDiff, reduceCtorEq, zgv, zgw, zfc, zfa, zgx, ne_eq, zfb, zff, zfd, Nat.add_zero, Nat.le_refl, zgy]
theorem q7z (h : x.Small) (hg : x.gone.length < 1000) (hq : x.procs[i]? = some q) (h1 : op.code = 4) :
  qa4 (evL T) qdq [(.agg [(ii x.r0), (ii x.r1), (.fsl ((x.procs).map Pr.r) false), (ii x.sum), (ii x.ev.time), (.fsl ((x.ev.key).map qb9) false), (ii x.ev.lp), (ii x.ev.kind), (ii x.ev.proc), (ii x.ev.arg), (.fsl ((x.out).map Evt.r) false), (.fsl ((x.gone).map qfz) false), (ii x.n), (bb x.over)]), (ii i), (.agg [(ii op.code), (ii op.a), (ii op.b), (ii op.c)])] = some (.tup [(.agg [(ii ((if 0 < q.timer.length then ({ x with gone := x.gone ++ [q.timer] } : Ex).setP i { q.inc with timer := [] } else x.setP i q.inc).r0)), (ii ((if 0 < q.timer.length then ({ x with gone := x.gone ++ [q.timer] } : Ex).setP i { q.inc with timer := [] } else x.setP i q.inc).r1)), (.fsl (((if 0 < q.timer.length then ({ x with gone := x.gone ++ [q.timer] } : Ex).setP i { q.inc with timer := [] } else x.setP i q.inc).procs).map Pr.r) false), (ii ((if 0 < q.timer.length then ({ x with gone := x.gone ++ [q.timer] } : Ex).setP i { q.inc with timer := [] } else x.setP i q.inc).sum)), (ii ((if 0 < q.timer.length then ({ x with gone := x.gone ++ [q.timer] } : Ex).setP i { q.inc with timer := [] } else x.setP i q.inc).ev.time)), (.fsl (((if 0 < q.timer.length then ({ x with gone := x.gone ++ [q.timer] } : Ex).setP i { q.inc with timer := [] } else x.setP i q.inc).ev.key).map qb9) false), (ii ((if 0 < q.timer.length then ({ x with gone := x.gone ++ [q.timer] } : Ex).setP i { q.inc with timer := [] } else x.setP i q.inc).ev.lp)), (ii ((if 0 < q.timer.length then ({ x with gone := x.gone ++ [q.timer] } : Ex).setP i { q.inc with timer := [] } else x.setP i q.inc).ev.kind)), (ii ((if 0 < q.timer.length then ({ x with gone := x.gone ++ [q.timer] } : Ex).setP i { q.inc with timer := [] } else x.setP i q.inc).ev.proc)), (ii ((if 0 < q.timer.length then ({ x with gone := x.gone ++ [q.timer] } : Ex).setP i { q.inc with timer := [] } else x.setP i q.inc).ev.arg)), (.fsl (((if 0 < q.timer.length then ({ x with gone := x.gone ++ [q.timer] } : Ex).setP i { q.inc with timer := [] } else x.setP i q.inc).out).map Evt.r) false), (.fsl (((if 0 < q.timer.length then ({ x with gone := x.gone ++ [q.timer] } : Ex).setP i { q.inc with timer := [] } else x.setP i q.inc).gone).map qfz) false), (ii ((if 0 < q.timer.length then ({ x with gone := x.gone ++ [q.timer] } : Ex).setP i { q.inc with timer := [] } else x.setP i q.inc).n)), (bb ((if 0 < q.timer.length then ({ x with gone := x.gone ++ [q.timer] } : Ex).setP i { q.inc with timer := [] } else x.setP i q.inc).over))]), (bb false)]) := by
 have hl := (List.getElem?_eq_some_iff.1 hq).1
 have k1 : ¬ (4 : Int) = 1 := by decide
 have k2 : ¬ (4 : Int) = 2 := by decide
 have k3 : ¬ (4 : Int) = 3 := by decide
 have ha := qoz x.gone q.timer false h.gone
 by_cases ht : 0 < q.timer.length
 ·have ht' : (q.timer.length : Int) > 0 := by omega
  have hp := qeh { x with gone := x.gone ++ [q.timer] } h.procs i hl { q.inc with timer := [] }
  rw [if_pos ht]
  simp only [List.map_nil, Pr.inc, w64] at hp ⊢
  rw [qa4, qx qdw qdi]
  simp only [qdy, h1, k1, k2, k3, ht', hq, hp, ha, Pr.r, zgs, zgr, zgq, zgt, qag, qau, qv, qbs, Nat.reduceLeDiff, qn, Ev.exec, qb, qe, qc, qa5, qai, Ev.evs, Ev.Opnd.ev, Ev.Env.get, Ev.Env.set, Ev.look, qo, qk, qae, Ev.AV.cells, Ev.AV.uc, qy, Ev.AV.plain, qaf, qam, qas, qm, qab, qaj, Ev.kill, qah, qd, qa1, qbd, qba, qu, qj, qh, qac, qal, zgi, ↓qs, ↓reduceIte, zga, zgb, zgd, zge, zgc, zgo, zfe, zgf, zgg, List.drop_nil, zgm, zgl, zgn, zgj, zgk, zgh, Nat.reduceAdd, Nat.reduceEqDiff, Nat.reduceLeDiff, reduceCtorEq, zgv, zgw, zfc, zfa, zgx, ne_eq, zfb, zff, zfd, Nat.add_zero, Nat.le_refl, zgy]
 ·have ht' : ¬ (q.timer.length : Int) > 0 := by omega
  have hp := qeh x h.procs i hl q.inc
  rw [if_neg ht]
  simp only [Pr.inc, w64] at hp ⊢
  rw [qa4, qx qdw qdi]
  simp only [qdy, h1, k1, k2, k3, ht', hq, hp, Pr.r, zgs, zgr, zgq, zgt, qag, qau, qv, qbs, Nat.reduceLeDiff, qn, Ev.exec, qb, qe, qc, qa5, qai, Ev.evs, Ev.Opnd.ev, Ev.Env.get, Ev.Env.set, Ev.look, qo, qk, qae, Ev.AV.cells, Ev.AV.uc, qy, Ev.AV.plain, qaf, qam, qas, qm, qab, qaj, Ev.kill, qah, qd, qa1, qbd, qba, qu, qj, qh, qal, zgi, ↓qs, ↓reduceIte, zga, zgb, zgd, zge, zgc, zgo, zfe, zgf, zgg, List.drop_nil, zgm, zgl, zgn, zgj, zgk, zgh, Nat.reduceAdd, Nat.reduceEqDiff, Nat.reduceLeDiff, reduceCtorEq, zgv, zgw, zfc, zfa, zgx, ne_eq, zfb, zff, zfd, Nat.add_zero, Nat.le_refl, zgy]
theorem q6v (h : x.Small) (hq : x.procs[i]? = some q) (h1 : op.code = 5) :
  qa4 (evL T) qdq [(.agg [(ii x.r0), (ii x.r1), (.fsl ((x.procs).map Pr.r) false), (ii x.sum), (ii x.ev.time), (.fsl ((x.ev.key).map qb9) false), (ii x.ev.lp), (ii x.ev.kind), (ii x.ev.proc), (ii x.ev.arg), (.fsl ((x.out).map Evt.r) false), (.fsl ((x.gone).map qfz) false), (ii x.n), (bb x.over)]), (ii i), (.agg [(ii op.code), (ii op.a), (ii op.b), (ii op.c)])] = some (.tup [(.agg [(ii (((x.setP i q.inc).spawnE op).r0)), (ii (((x.setP i q.inc).spawnE op).r1)), (.fsl ((((x.setP i q.inc).spawnE op).procs).map Pr.r) false), (ii (((x.setP i q.inc).spawnE op).sum)), (ii (((x.setP i q.inc).spawnE op).ev.time)), (.fsl ((((x.setP i q.inc).spawnE op).ev.key).map qb9) false), (ii (((x.setP i q.inc).spawnE op).ev.lp)), (ii (((x.setP i q.inc).spawnE op).ev.kind)), (ii (((x.setP i q.inc).spawnE op).ev.proc)), (ii (((x.setP i q.inc).spawnE op).ev.arg)), (.fsl ((((x.setP i q.inc).spawnE op).out).map Evt.r) false), (.fsl ((((x.setP i q.inc).spawnE op).gone).map qfz) false), (ii (((x.setP i q.inc).spawnE op).n)), (bb (((x.setP i q.inc).spawnE op).over))]), (bb false)]) := by
 have hl := (List.getElem?_eq_some_iff.1 hq).1
 have k1 : ¬ (5 : Int) = 1 := by decide
 have k2 : ¬ (5 : Int) = 2 := by decide
 have k3 : ¬ (5 : Int) = 3 := by decide
 have k4 : ¬ (5 : Int) = 4 := by decide
 have hp := qeh x h.procs i hl q.inc
 have hls : (x.procs.set i q.inc).length = x.procs.length := by simp
 unfold Ex.spawnE
 by_cases hs : x.procs.length < 8
 ·have hs' : ¬ (x.procs.length : Int) ≥ 8 := by omega
  have h2 : x.procs.length * 48 ≤ 140737488355328 := by omega
  have h3 : (x.procs.length + 1) * 48 ≤ 140737488355328 := by omega
  rw [if_pos (by simp only [Ex.setP, hls]; exact hs)]
  have hc := qkd { x with procs := x.procs.set i q.inc ++ [⟨op.a, 0, true, []⟩] } ⟨by simp; omega, h.out, h.gone, h.key⟩ op.b 0 x.ev.lp 1 x.procs.length 0 []
  have htk : ∀ e : List AV, List.take (x.procs.length + 1) ((x.procs.set i q.inc).map Pr.r ++ [e]) = (x.procs.set i q.inc).map Pr.r ++ [e] := fun e => List.take_of_length_le (by simp)
  have htl : List.take x.procs.length ((x.procs.set i q.inc).map Pr.r) = (x.procs.set i q.inc).map Pr.r := List.take_of_length_le (by simp)
  simp only [Ex.setP, Ex.ownE, hls] at hp ⊢
  generalize x.procs.set i q.inc = l at *
  simp only [List.map_nil, List.map_append, List.map_cons, Pr.inc, Pr.r, w64] at hc hp ⊢
  rw [qa4, qx qdw qdi]
  simp only [qdy, h1, k1, k2, k3, k4, h2, h3, hs', hls, hq, hc, hp, htl, htk, q35, Pr.r, qj8, zgs, zgr, zgq, zgt, qag, qau, qv, qbs, Nat.reduceLT, Nat.reduceLeDiff, qn, Ev.exec, qb, qe, qc, qa5, qai, qn9, Ev.evs, Ev.Opnd.ev, Ev.Env.get, Ev.Env.set, Ev.look, qo, qk, qb0, qae, qg6, qf6, Ev.AV.cells, Ev.AV.uc, qy, Ev.AV.plain, qaf, qam, qch, qm, qab, qaj, Ev.kill, qah, qd, qa1, qbd, qba, qu, qj, qh, qac, qao, qbl, qa9, qal, List.replicate_one, List.replicate_zero, zgi, ↓qs, ↓reduceIte, zga, zgb, zgp, zgd, zge, zgc, zgo, zfe, zgf, zgg, List.drop_nil, zgm, zgl, zgn, zgj, zgk, zgh, Nat.reduceAdd, Nat.reduceEqDiff, Nat.reduceMul, Nat.reduceLT, Nat.reduceLeDiff, Nat.reducePow, reduceCtorEq, zgv, zgw, zfc, zfa, zgx, ne_eq, zfb, not_true_eq_false, zff, zfd, Nat.add_zero, zgu, Nat.le_refl, zgy, and_false]
 ·have hs' : (x.procs.length : Int) ≥ 8 := by omega
  rw [if_neg (by simp only [Ex.setP, hls]; exact hs)]
  simp only [Ex.setP] at hp ⊢
  generalize x.procs.set i q.inc = l at *
  simp only [Pr.inc, w64] at hp ⊢
  rw [qa4, qx qdw qdi]
  simp only [qdy, h1, k1, k2, k3, k4, hs', hls, hq, hp, Pr.r, zgs, zgr, zgq, zgt, qag, qau, qv, qbs, Nat.reduceLeDiff, qn, Ev.exec, qb, qe, qc, qa5, qai, Ev.evs, Ev.Opnd.ev, Ev.Env.get, Ev.Env.set, Ev.look, qo, qk, qae, Ev.AV.cells, Ev.AV.uc, qy, Ev.AV.plain, qaf, qam, qch, qm, qab, qaj, Ev.kill, qah, qd, qa1, qbd, qba, qu, qj, qh, qal, zgi, ↓qs, ↓reduceIte, zga, zgb, zgd, zge, zgc, zgo, zfe, zgf, zgg, List.drop_nil, zgm, zgl, zgn, zgj, zgk, zgh, Nat.reduceAdd, Nat.reduceEqDiff, Nat.reduceLeDiff, reduceCtorEq, zgv, zgw, zfc, zfa, zgx, ne_eq, zfb, zff, zfd, Nat.add_zero, Nat.le_refl, zgy]
theorem qaca (h : x.Small) (hq : x.procs[i]? = some q) (h1 : op.code = 6) (h0 : op.a = 0 ∨ op.a = 1) :
  qa4 (evL T) qdq [(.agg [(ii x.r0), (ii x.r1), (.fsl ((x.procs).map Pr.r) false), (ii x.sum), (ii x.ev.time), (.fsl ((x.ev.key).map qb9) false), (ii x.ev.lp), (ii x.ev.kind), (ii x.ev.proc), (ii x.ev.arg), (.fsl ((x.out).map Evt.r) false), (.fsl ((x.gone).map qfz) false), (ii x.n), (bb x.over)]), (ii i), (.agg [(ii op.code), (ii op.a), (ii op.b), (ii op.c)])] = some (.tup [(.agg [(ii (((x.setReg op.a (w64 (x.reg op.a + op.b))).setP i q.inc).r0)), (ii (((x.setReg op.a (w64 (x.reg op.a + op.b))).setP i q.inc).r1)), (.fsl ((((x.setReg op.a (w64 (x.reg op.a + op.b))).setP i q.inc).procs).map Pr.r) false), (ii (((x.setReg op.a (w64 (x.reg op.a + op.b))).setP i q.inc).sum)), (ii (((x.setReg op.a (w64 (x.reg op.a + op.b))).setP i q.inc).ev.time)), (.fsl ((((x.setReg op.a (w64 (x.reg op.a + op.b))).setP i q.inc).ev.key).map qb9) false), (ii (((x.setReg op.a (w64 (x.reg op.a + op.b))).setP i q.inc).ev.lp)), (ii (((x.setReg op.a (w64 (x.reg op.a + op.b))).setP i q.inc).ev.kind)), (ii (((x.setReg op.a (w64 (x.reg op.a + op.b))).setP i q.inc).ev.proc)), (ii (((x.setReg op.a (w64 (x.reg op.a + op.b))).setP i q.inc).ev.arg)), (.fsl ((((x.setReg op.a (w64 (x.reg op.a + op.b))).setP i q.inc).out).map Evt.r) false), (.fsl ((((x.setReg op.a (w64 (x.reg op.a + op.b))).setP i q.inc).gone).map qfz) false), (ii (((x.setReg op.a (w64 (x.reg op.a + op.b))).setP i q.inc).n)), (bb (((x.setReg op.a (w64 (x.reg op.a + op.b))).setP i q.inc).over))]), (bb false)]) := by
 have hl := (List.getElem?_eq_some_iff.1 hq).1
 have k1 : ¬ (6 : Int) = 1 := by decide
 have k2 : ¬ (6 : Int) = 2 := by decide
 have k3 : ¬ (6 : Int) = 3 := by decide
 have k4 : ¬ (6 : Int) = 4 := by decide
 have k5 : ¬ (6 : Int) = 5 := by decide
 have k6 : ¬ (1 : Int) = 0 := by decide
 rcases h0 with h0 | h0
 ·have hp := qeh { x with r0 := w64 (x.r0 + op.b) } h.procs i hl q.inc
  simp only [Ex.setReg, Ex.reg, h0, if_true]
  simp only [Pr.inc, w64] at hp ⊢
  rw [qa4, qx qdw qdi]
  simp only [qdy, h1, k1, k2, k3, k4, k5, hq, hp, Pr.r, zgs, zgr, zgq, zgt, qag, qau, qv, qbs, Nat.reduceLT, Nat.reduceLeDiff, qn, Ev.exec, qb, qe, qc, qa5, qai, Ev.evs, Ev.Opnd.ev, Ev.Env.get, Ev.Env.set, Ev.look, qo, qk, qae, Ev.AV.cells, Ev.AV.uc, qy, Ev.AV.plain, qaf, qam, qm, qab, qaj, Ev.kill, qah, qd, qa1, qbd, qba, qu, qj, qh, qal, ↓qs, ↓reduceIte, zga, zgb, zgd, zge, zgc, zgo, zfe, zgf, zgg, List.drop_nil, zgm, zgl, zgn, zgj, zgk, zgh, Nat.reduceAdd, Nat.reduceEqDiff, Nat.reduceMul, Nat.reduceLT, Nat.reduceLeDiff, Int.reduceLE, Int.reduceToNat, reduceCtorEq, zgv, zgw, zfc, zfa, zgx, ne_eq, zfb, zff, zfd, Nat.add_zero, Nat.le_refl, zgy]
 ·have hp := qeh { x with r1 := w64 (x.r1 + op.b) } h.procs i hl q.inc
  simp only [Ex.setReg, Ex.reg, h0, k6, if_false]
  simp only [Pr.inc, w64] at hp ⊢
  rw [qa4, qx qdw qdi]
  simp only [qdy, h1, k1, k2, k3, k4, k5, hq, hp, Pr.r, zgs, zgr, zgq, zgt, qag, qau, qv, qbs, Nat.reduceLeDiff, qn, Ev.exec, qb, qe, qc, qa5, qai, Ev.evs, Ev.Opnd.ev, Ev.Env.get, Ev.Env.set, Ev.look, qo, qk, qae, Ev.AV.cells, Ev.AV.uc, qy, Ev.AV.plain, qaf, qam, qm, qab, qaj, Ev.kill, qah, qd, qa1, qbd, qba, qu, qj, qh, qal, ↓qs, ↓reduceIte, zga, zgb, zgd, zge, zgc, zgo, zfe, zgf, zgg, List.drop_nil, zgm, zgl, zgn, zgj, zgk, zgh, Nat.reduceAdd, Nat.reduceEqDiff, Nat.reduceMul, Nat.reduceLeDiff, Int.reduceLE, Int.reduceToNat, reduceCtorEq, zgv, zgw, zfc, zfa, zgx, ne_eq, zfb, zff, zfd, Nat.add_zero, zgu, Nat.le_refl, zgy]
theorem q9g (h : x.Small) (hq : x.procs[i]? = some q) (h1 : op.code = 7) (h0 : op.a = 0 ∨ op.a = 1) :
  qa4 (evL T) qdq [(.agg [(ii x.r0), (ii x.r1), (.fsl ((x.procs).map Pr.r) false), (ii x.sum), (ii x.ev.time), (.fsl ((x.ev.key).map qb9) false), (ii x.ev.lp), (ii x.ev.kind), (ii x.ev.proc), (ii x.ev.arg), (.fsl ((x.out).map Evt.r) false), (.fsl ((x.gone).map qfz) false), (ii x.n), (bb x.over)]), (ii i), (.agg [(ii op.code), (ii op.a), (ii op.b), (ii op.c)])] = some (.tup [(.agg [(ii ((x.setP i (if x.reg op.a < op.b then { q.inc with pc := op.c } else q.inc)).r0)), (ii ((x.setP i (if x.reg op.a < op.b then { q.inc with pc := op.c } else q.inc)).r1)), (.fsl (((x.setP i (if x.reg op.a < op.b then { q.inc with pc := op.c } else q.inc)).procs).map Pr.r) false), (ii ((x.setP i (if x.reg op.a < op.b then { q.inc with pc := op.c } else q.inc)).sum)), (ii ((x.setP i (if x.reg op.a < op.b then { q.inc with pc := op.c } else q.inc)).ev.time)), (.fsl (((x.setP i (if x.reg op.a < op.b then { q.inc with pc := op.c } else q.inc)).ev.key).map qb9) false), (ii ((x.setP i (if x.reg op.a < op.b then { q.inc with pc := op.c } else q.inc)).ev.lp)), (ii ((x.setP i (if x.reg op.a < op.b then { q.inc with pc := op.c } else q.inc)).ev.kind)), (ii ((x.setP i (if x.reg op.a < op.b then { q.inc with pc := op.c } else q.inc)).ev.proc)), (ii ((x.setP i (if x.reg op.a < op.b then { q.inc with pc := op.c } else q.inc)).ev.arg)), (.fsl (((x.setP i (if x.reg op.a < op.b then { q.inc with pc := op.c } else q.inc)).out).map Evt.r) false), (.fsl (((x.setP i (if x.reg op.a < op.b then { q.inc with pc := op.c } else q.inc)).gone).map qfz) false), (ii ((x.setP i (if x.reg op.a < op.b then { q.inc with pc := op.c } else q.inc)).n)), (bb ((x.setP i (if x.reg op.a < op.b then { q.inc with pc := op.c } else q.inc)).over))]), (bb false)]) := by
 have hl := (List.getElem?_eq_some_iff.1 hq).1
 have k1 : ¬ (7 : Int) = 1 := by decide
 have k2 : ¬ (7 : Int) = 2 := by decide
 have k3 : ¬ (7 : Int) = 3 := by decide
 have k4 : ¬ (7 : Int) = 4 := by decide
 have k5 : ¬ (7 : Int) = 5 := by decide
 have k5' : ¬ (7 : Int) = 6 := by decide
 have k6 : ¬ (1 : Int) = 0 := by decide
 by_cases hr : x.reg op.a < op.b
 ·have hp := qeh x h.procs i hl { q.inc with pc := op.c }
  simp only [Pr.inc, w64] at hp
  rw [if_pos hr]
  rw [qa4, qx qdw qdi]
  rcases h0 with h0 | h0 <;> simp only [Ex.reg, h0, k6, if_true, if_false] at hr <;>
  simp only [qdy, h0, h1, k1, k2, k3, k4, k5, k5', hr, hq, hp, Pr.inc, w64, Pr.r, zgs, zgr, zgq, zgt, qag, qau, qv, qbs, Nat.reduceLT, Nat.reduceLeDiff, qn, Ev.exec, qb, qe, qc, qa5, qai, Ev.evs, Ev.Opnd.ev, Ev.Env.get, Ev.Env.set, Ev.look, qo, qk, qae, Ev.AV.cells, Ev.AV.uc, qy, Ev.AV.plain, qaf, qam, ql, qm, qab, qaj, Ev.kill, qah, qd, qa1, qbd, qba, qu, qj, qh, qal, ↓qs, ↓reduceIte, zga, zgb, zgd, zge, zgc, zgo, zfe, zgf, zgg, List.drop_nil, zgm, zgl, zgn, zgj, zgk, zgh, Nat.reduceAdd, Nat.reduceEqDiff, Nat.reduceMul, Nat.reduceLT, Nat.reduceLeDiff, Int.reduceLE, Int.reduceToNat, reduceCtorEq, zgv, zgw, zfc, zfa, zgx, ne_eq, zfb, zff, zfd, Nat.add_zero, zgu, Nat.le_refl, zgy]
 ·have hp := qeh x h.procs i hl q.inc
  simp only [Pr.inc, w64] at hp
  rw [if_neg hr]
  rw [qa4, qx qdw qdi]
  rcases h0 with h0 | h0 <;> simp only [Ex.reg, h0, k6, if_true, if_false] at hr <;>
  simp only [qdy, h0, h1, k1, k2, k3, k4, k5, k5', hr, hq, hp, Pr.inc, w64, Pr.r, zgs, zgr, zgq, zgt, qag, qau, qv, qbs, Nat.reduceLT, Nat.reduceLeDiff, qn, Ev.exec, qb, qe, qc, qa5, qai, Ev.evs, Ev.Opnd.ev, Ev.Env.get, Ev.Env.set, Ev.look, qo, qk, qae, Ev.AV.cells, Ev.AV.uc, qy, Ev.AV.plain, qaf, qam, ql, qm, qab, qaj, Ev.kill, qah, qd, qa1, qbd, qba, qu, qj, qh, qal, ↓qs, ↓reduceIte, zga, zgb, zgd, zge, zgc, zgo, zfe, zgf, zgg, List.drop_nil, zgm, zgl, zgn, zgj, zgk, zgh, Nat.reduceAdd, Nat.reduceEqDiff, Nat.reduceMul, Nat.reduceLT, Nat.reduceLeDiff, Int.reduceLE, Int.reduceToNat, reduceCtorEq, zgv, zgw, zfc, zfa, zgx, ne_eq, zfb, zff, zfd, Nat.add_zero, zgu, Nat.le_refl, zgy]
theorem qab3 (h : x.Small) (hq : x.procs[i]? = some q) (h1 : op.code = 8) :
  qa4 (evL T) qdq [(.agg [(ii x.r0), (ii x.r1), (.fsl ((x.procs).map Pr.r) false), (ii x.sum), (ii x.ev.time), (.fsl ((x.ev.key).map qb9) false), (ii x.ev.lp), (ii x.ev.kind), (ii x.ev.proc), (ii x.ev.arg), (.fsl ((x.out).map Evt.r) false), (.fsl ((x.gone).map qfz) false), (ii x.n), (bb x.over)]), (ii i), (.agg [(ii op.code), (ii op.a), (ii op.b), (ii op.c)])] = some (.tup [(.agg [(ii ((x.setP i { q.inc with alive := false }).r0)), (ii ((x.setP i { q.inc with alive := false }).r1)), (.fsl (((x.setP i { q.inc with alive := false }).procs).map Pr.r) false), (ii ((x.setP i { q.inc with alive := false }).sum)), (ii ((x.setP i { q.inc with alive := false }).ev.time)), (.fsl (((x.setP i { q.inc with alive := false }).ev.key).map qb9) false), (ii ((x.setP i { q.inc with alive := false }).ev.lp)), (ii ((x.setP i { q.inc with alive := false }).ev.kind)), (ii ((x.setP i { q.inc with alive := false }).ev.proc)), (ii ((x.setP i { q.inc with alive := false }).ev.arg)), (.fsl (((x.setP i { q.inc with alive := false }).out).map Evt.r) false), (.fsl (((x.setP i { q.inc with alive := false }).gone).map qfz) false), (ii ((x.setP i { q.inc with alive := false }).n)), (bb ((x.setP i { q.inc with alive := false }).over))]), (bb true)]) := by
 have hl := (List.getElem?_eq_some_iff.1 hq).1
 have k1 : ¬ (8 : Int) = 1 := by decide
 have k2 : ¬ (8 : Int) = 2 := by decide
 have k3 : ¬ (8 : Int) = 3 := by decide
 have k4 : ¬ (8 : Int) = 4 := by decide
 have k5 : ¬ (8 : Int) = 5 := by decide
 have k6 : ¬ (8 : Int) = 6 := by decide
 have k7 : ¬ (8 : Int) = 7 := by decide
 have hp := qeh x h.procs i hl { q.inc with alive := false }
 simp only [Pr.inc, w64] at hp ⊢
 rw [qa4, qx qdw qdi]
 simp only [qdy, h1, k1, k2, k3, k4, k5, k6, k7, hq, hp, Pr.r, zgs, zgr, zgq, zgt, qag, qau, qv, qbs, Nat.reduceLeDiff, qn, Ev.exec, qb, qe, qc, qa5, qai, Ev.evs, Ev.Opnd.ev, Ev.Env.get, Ev.Env.set, Ev.look, qo, qk, qae, Ev.AV.cells, Ev.AV.uc, qy, Ev.AV.plain, qaf, qam, qm, qab, qaj, Ev.kill, qah, qd, qa1, qbd, qba, qu, qj, qh, qal, ↓qs, ↓reduceIte, zga, zgb, zgd, zge, zgc, zgo, zfe, zgf, zgg, List.drop_nil, zgm, zgl, zgn, zgj, zgk, zgh, Nat.reduceAdd, Nat.reduceEqDiff, Nat.reduceLeDiff, reduceCtorEq, zgw, zfc, zfa, zgx, ne_eq, zfb, zff, zfd, Nat.add_zero, Nat.le_refl, zgy]
end
set_option maxRecDepth 10000
def stepR (x : Ex) (i : Nat) (q : Pr) (op : OpI) : Ex × Bool :=
 if (qdv (x.setP i q.inc) i q.inc op).2 = 1 then ((qdv (x.setP i q.inc) i q.inc op).1, true)
 else if (qdv (x.setP i q.inc) i q.inc op).2 = 2 then (qmo (qdv (x.setP i q.inc) i q.inc op).1 i, true)
 else ((qdv (x.setP i q.inc) i q.inc op).1, false)
theorem rstep_ev (x : Ex) (i : Nat) (op : OpI) (q : Pr) (h : x.Small) (hg : x.gone.length < 1000) (hi : x.ev.proc = i) (hq : x.procs[i]? = some q) (ho : OpOk' op) :
  qa4 (evL T) qdq [(.agg [(ii x.r0), (ii x.r1), (.fsl ((x.procs).map Pr.r) false), (ii x.sum), (ii x.ev.time), (.fsl ((x.ev.key).map qb9) false), (ii x.ev.lp), (ii x.ev.kind), (ii x.ev.proc), (ii x.ev.arg), (.fsl ((x.out).map Evt.r) false), (.fsl ((x.gone).map qfz) false), (ii x.n), (bb x.over)]), (ii i), (.agg [(ii op.code), (ii op.a), (ii op.b), (ii op.c)])] = some (.tup [(.agg [(ii ((stepR x i q op).1.r0)), (ii ((stepR x i q op).1.r1)), (.fsl (((stepR x i q op).1.procs).map Pr.r) false), (ii ((stepR x i q op).1.sum)), (ii ((stepR x i q op).1.ev.time)), (.fsl (((stepR x i q op).1.ev.key).map qb9) false), (ii ((stepR x i q op).1.ev.lp)), (ii ((stepR x i q op).1.ev.kind)), (ii ((stepR x i q op).1.ev.proc)), (ii ((stepR x i q op).1.ev.arg)), (.fsl (((stepR x i q op).1.out).map Evt.r) false), (.fsl (((stepR x i q op).1.gone).map qfz) false), (ii ((stepR x i q op).1.n)), (bb ((stepR x i q op).1.over))]), (bb ((stepR x i q op).2))]) := by
 have hl := (List.getElem?_eq_some_iff.1 hq).1
 have hc : op.code = 1 ∨ op.code = 2 ∨ op.code = 3 ∨ op.code = 4 ∨ op.code = 5 ∨ op.code = 6 ∨ op.code = 7 ∨ op.code = 8 := by have := ho.code; omega
 have fin : ∀ (y : Ex) (b : Bool), stepR x i q op = (y, b) → qa4 (evL T) qdq [(.agg [(ii x.r0), (ii x.r1), (.fsl ((x.procs).map Pr.r) false), (ii x.sum), (ii x.ev.time), (.fsl ((x.ev.key).map qb9) false), (ii x.ev.lp), (ii x.ev.kind), (ii x.ev.proc), (ii x.ev.arg), (.fsl ((x.out).map Evt.r) false), (.fsl ((x.gone).map qfz) false), (ii x.n), (bb x.over)]), (ii i), (.agg [(ii op.code), (ii op.a), (ii op.b), (ii op.c)])] = some (.tup [(.agg [(ii y.r0), (ii y.r1), (.fsl ((y.procs).map Pr.r) false), (ii y.sum), (ii y.ev.time), (.fsl ((y.ev.key).map qb9) false), (ii y.ev.lp), (ii y.ev.kind), (ii y.ev.proc), (ii y.ev.arg), (.fsl ((y.out).map Evt.r) false), (.fsl ((y.gone).map qfz) false), (ii y.n), (bb y.over)]), (bb b)]) → qa4 (evL T) qdq [(.agg [(ii x.r0), (ii x.r1), (.fsl ((x.procs).map Pr.r) false), (ii x.sum), (ii x.ev.time), (.fsl ((x.ev.key).map qb9) false), (ii x.ev.lp), (ii x.ev.kind), (ii x.ev.proc), (ii x.ev.arg), (.fsl ((x.out).map Evt.r) false), (.fsl ((x.gone).map qfz) false), (ii x.n), (bb x.over)]), (ii i), (.agg [(ii op.code), (ii op.a), (ii op.b), (ii op.c)])] = some (.tup [(.agg [(ii ((stepR x i q op).1.r0)), (ii ((stepR x i q op).1.r1)), (.fsl (((stepR x i q op).1.procs).map Pr.r) false), (ii ((stepR x i q op).1.sum)), (ii ((stepR x i q op).1.ev.time)), (.fsl (((stepR x i q op).1.ev.key).map qb9) false), (ii ((stepR x i q op).1.ev.lp)), (ii ((stepR x i q op).1.ev.kind)), (ii ((stepR x i q op).1.ev.proc)), (ii ((stepR x i q op).1.ev.arg)), (.fsl (((stepR x i q op).1.out).map Evt.r) false), (.fsl (((stepR x i q op).1.gone).map qfz) false), (ii ((stepR x i q op).1.n)), (bb ((stepR x i q op).1.over))]), (bb ((stepR x i q op).2))]) := by
  intro y b e k; rw [e]; exact k
 rcases hc with hc | hc | hc | hc | hc | hc | hc | hc
 ·refine fin _ _ ?_ (q8d x i op q h hq hc)
  simp [stepR, qdv, hc, Ex.setP, Ex.create, Ex.ownE, Ex.kid, hi]
 ·refine fin _ _ ?_ (q82 x i op q h hq hc)
  simp [stepR, qdv, hc, Ex.setP, Ex.create, Ex.kid]
 ·refine fin _ _ ?_ (q52 x i op q h hg hq hc)
  by_cases ht : 0 < q.timer.length
  ·simp [stepR, qdv, hc, Ex.timerE, Ex.stopE, Ex.setP, Ex.create, Ex.ownE, Ex.kid, hi, ht, Pr.inc, List.set_set]
  ·simp [stepR, qdv, hc, Ex.timerE, Ex.stopE, Ex.setP, Ex.create, Ex.ownE, Ex.kid, hi, ht, Pr.inc, List.set_set]
 ·refine fin _ _ ?_ (q7z x i op q h hg hq hc)
  by_cases ht : 0 < q.timer.length
  ·simp [stepR, qdv, hc, Ex.stopE, Ex.setP, ht, Pr.inc, List.set_set]
  ·simp [stepR, qdv, hc, Ex.stopE, Ex.setP, ht, Pr.inc]
 ·refine fin _ _ ?_ (q6v x i op q h hq hc)
  simp [stepR, qdv, hc]
 ·refine fin _ _ ?_ (qaca x i op q h hq hc (ho.reg (.inl hc)))
  rcases ho.reg (.inl hc) with h0 | h0 <;> simp [stepR, qdv, hc, Ex.setP, Ex.setReg, Ex.reg, h0]
 ·refine fin _ _ ?_ (q9g x i op q h hq hc (ho.reg (.inr hc)))
  have hr : (x.setP i q.inc).reg op.a = x.reg op.a := rfl
  by_cases ht : x.reg op.a < op.b
  ·have hr2 : (x.setP i q.inc).reg op.a < op.b := ht
   have : (qdv (x.setP i q.inc) i q.inc op) = ((x.setP i q.inc).setP i { q.inc with pc := op.c }, 0) := by simp only [qdv, hc]; rw [if_pos hr2]; rfl
   simp only [stepR, this, ht, if_true]
   simp [Ex.setP, List.set_set]
  ·have hr2 : ¬ (x.setP i q.inc).reg op.a < op.b := ht
   have : (qdv (x.setP i q.inc) i q.inc op) = (x.setP i q.inc, 0) := by simp only [qdv, hc]; rw [if_neg hr2]; rfl
   simp only [stepR, this, ht, if_false]
   simp
 ·refine fin _ _ ?_ (qab3 x i op q h hq hc)
  have : (x.setP i q.inc).procs[i]? = some q.inc := by simp only [Ex.setP]; rw [List.getElem?_set_self hl]
  have hst : (qdv (x.setP i q.inc) i q.inc op) = (x.setP i q.inc, 2) := by simp [qdv, hc]
  simp only [stepR, hst, qmo, this]
  simp [Ex.setP, List.set_set]
theorem qyw (p : List OpI) (i n : Nat) (x : Ex) (q : Pr) (hq : x.procs[i]? = some q) : qlv p i (n + 1) x = match p[q.pc.toNat]? with
  | none => qmo x i
  | some op => if (stepR x i q op).2 = true then (stepR x i q op).1 else qlv p i n (stepR x i q op).1 := by
 simp only [qlv, hq]
 cases hp : p[q.pc.toNat]? with
 | none => rfl
 | some op =>
  show (if (qdv (x.setP i q.inc) i q.inc op).2 = 1 then (qdv (x.setP i q.inc) i q.inc op).1 else if (qdv (x.setP i q.inc) i q.inc op).2 = 2 then qmo (qdv (x.setP i q.inc) i q.inc op).1 i else qlv p i n (qdv (x.setP i q.inc) i q.inc op).1) = (if (stepR x i q op).2 = true then (stepR x i q op).1 else qlv p i n (stepR x i q op).1)
  unfold stepR
  by_cases h1 : (qdv (x.setP i q.inc) i q.inc op).2 = 1
  ·simp only [h1, if_true]
  by_cases h2 : (qdv (x.setP i q.inc) i q.inc op).2 = 2
  ·rw [if_neg h1, if_pos h2, if_neg h1, if_pos h2]; rfl
  ·simp only [h1, h2, if_false, zfa]
set_option maxRecDepth 10000
theorem q8b (x : Ex) (i : Nat) {q : Pr} (hq : x.procs[i]? = some q) : ∃ q', (qmo x i).procs[i]? = some q' ∧ q'.prog = q.prog := by
 have hl := (List.getElem?_eq_some_iff.1 hq).1
 refine ⟨{ q with alive := false }, ?_, rfl⟩
 unfold qmo; rw [hq]; simp only [Ex.setP]; rw [List.getElem?_set_self hl]
theorem q80 (x : Ex) (i : Nat) (q : Pr) (op : OpI) (hq : x.procs[i]? = some q) : ∃ q', (qdv x i q op).1.procs[i]? = some q' ∧ q'.prog = q.prog := by
 have hl := (List.getElem?_eq_some_iff.1 hq).1
 have hst : ∃ q', (x.stopE i q).procs[i]? = some q' ∧ q'.prog = q.prog := by
  unfold Ex.stopE; split
  ·exact ⟨{ q with timer := [] }, by simp only; rw [List.getElem?_set_self hl], rfl⟩
  ·exact ⟨q, hq, rfl⟩
 unfold qdv
 split
 ·exact ⟨q, hq, rfl⟩
 split
 ·exact ⟨q, hq, rfl⟩
 split
 ·obtain ⟨q', h1, _⟩ := hst
  have hl2 := (List.getElem?_eq_some_iff.1 h1).1
  exact ⟨{ q with timer := (x.stopE i q).kid }, by show ((x.stopE i q).procs.set i _)[i]? = _; rw [List.getElem?_set_self hl2], rfl⟩
 split
 ·exact hst
 split
 ·refine ⟨q, ?_, rfl⟩
  unfold Ex.spawnE; split
  ·show (x.procs ++ [_])[i]? = _
   rw [List.getElem?_append_left hl]; exact hq
  ·exact hq
 split
 ·refine ⟨q, ?_, rfl⟩
  unfold Ex.setReg; split <;> exact hq
 split
 ·split
  ·exact ⟨{ q with pc := op.c }, by simp only [Ex.setP]; rw [List.getElem?_set_self hl], rfl⟩
  ·exact ⟨q, hq, rfl⟩
 ·exact ⟨q, hq, rfl⟩
theorem q8y (x : Ex) (i : Nat) (q : Pr) (op : OpI) (hq : x.procs[i]? = some q) : ∃ q', (stepR x i q op).1.procs[i]? = some q' ∧ q'.prog = q.prog := by
 have hl := (List.getElem?_eq_some_iff.1 hq).1
 have h0 : (x.setP i q.inc).procs[i]? = some q.inc := by simp only [Ex.setP]; rw [List.getElem?_set_self hl]
 obtain ⟨q', h1, h2⟩ := q80 (x.setP i q.inc) i q.inc op h0
 unfold stepR
 split
 ·exact ⟨q', h1, h2⟩
 split
 ·obtain ⟨q2, h3, h4⟩ := q8b _ i h1
  exact ⟨q2, h3, h4.trans h2⟩
 ·exact ⟨q', h1, h2⟩
theorem ActInv.stepR {e : Evt} {i n : Nat} {x : Ex} (h : ActInv e i n x) {q : Pr} (hq : x.procs[i]? = some q) (hpc : 0 ≤ q.pc ∧ q.pc + 1 ≤ 1000000) {op : OpI} (ho : OpOk' op) : ActInv e i (n + 1) (stepR x i q op).1 := by
 have hlt := (List.getElem?_eq_some_iff.1 hq).1
 have hwq : w64 (q.pc + 1) = q.pc + 1 := qaw (by omega) (by omega)
 have hz : ActInv e i n (x.setP i q.inc) := by
  have := h.pc hq (pc := q.pc + 1) ⟨by omega, by omega⟩ q.alive
  unfold Pr.inc; rw [hwq]; exact this
 have hzq : (x.setP i q.inc).procs[i]? = some q.inc := by simp only [Ex.setP]; rw [List.getElem?_set_self hlt]
 have hn := hz.step hzq (show 0 ≤ q.inc.pc ∧ q.inc.pc ≤ 1000000 by unfold Pr.inc; simp only [hwq]; omega) ho
 unfold K.stepR
 split
 ·exact hn
 split
 ·obtain ⟨q', h1, h2⟩ := hn.has
  have := hn.pc h1 h2 false
  unfold qmo; rw [h1]; exact this
 ·exact hn
section
variable (c : Cfg) (e0 : Evt) (i : Nat) (p : List OpI) (pr : Int)
def RefEnd (e0 : Evt) (i : Nat) (F : Ex) (y : CExit × Env × qaa) : Prop :=
 y.2.1.marks = [] ∧ ((y.1 = .ret ∧ Ev.look y.2.1.vars 6 = some (.ptr 1 0 0 0) ∧ ∃ q : Pr, y.2.2 = [.row 14 [[(ii F.r0), (ii F.r1), (.fsl ((F.procs).map Pr.r) false), (ii F.sum), (ii F.ev.time), (.fsl ((F.ev.key).map qb9) false), (ii F.ev.lp), (ii F.ev.kind), (ii F.ev.proc), (ii F.ev.arg), (.fsl ((F.out).map Evt.r) false), (.fsl ((F.gone).map qfz) false), (ii F.n), (bb F.over)]] 0, .row 14 [[(ii F.r0), (ii F.r1), (.fsl ((F.procs).map Pr.r) false), (ii F.sum), (ii F.ev.time), (.fsl ((F.ev.key).map qb9) false), (ii F.ev.lp), (ii F.ev.kind), (ii F.ev.proc), (ii F.ev.arg), (.fsl ((F.out).map Evt.r) false), (.fsl ((F.gone).map qfz) false), (ii F.n), (bb F.over)]] 0, .row 4 [q.r] 0, .row 14 [[(ii F.r0), (ii F.r1), (.fsl ((F.procs).map Pr.r) false), (ii F.sum), (ii F.ev.time), (.fsl ((F.ev.key).map qb9) false), (ii F.ev.lp), (ii F.ev.kind), (ii F.ev.proc), (ii F.ev.arg), (.fsl ((F.out).map Evt.r) false), (.fsl ((F.gone).map qfz) false), (ii F.n), (bb F.over)]] 0]) ∨
  (y.1 = .exit 0 ∧ ∃ z : Ex, ActInv e0 i 16 z ∧ qmo z i = F ∧ Ev.look y.2.1.vars 4 = some (.ptr 0 0 0 0) ∧ Ev.look y.2.1.vars 6 = some (.ptr 1 0 0 0) ∧ Ev.look y.2.1.vars 2 = some (ii i) ∧
   (y.2.2 = [.row 14 [[(ii z.r0), (ii z.r1), (.fsl ((z.procs).map Pr.r) false), (ii z.sum), (ii z.ev.time), (.fsl ((z.ev.key).map qb9) false), (ii z.ev.lp), (ii z.ev.kind), (ii z.ev.proc), (ii z.ev.arg), (.fsl ((z.out).map Evt.r) false), (.fsl ((z.gone).map qfz) false), (ii z.n), (bb z.over)]] 0, .row 14 [[(ii 0), (ii 0), .fsl [] false, (ii 0), (ii 0), .fsl [] false, (ii 0), (ii 0), (ii 0), (ii 0), .fsl [] false, .fsl [] false, (ii 0), (bb false)]] 0] ∨ ∃ q : Pr, y.2.2 = [.row 14 [[(ii z.r0), (ii z.r1), (.fsl ((z.procs).map Pr.r) false), (ii z.sum), (ii z.ev.time), (.fsl ((z.ev.key).map qb9) false), (ii z.ev.lp), (ii z.ev.kind), (ii z.ev.proc), (ii z.ev.arg), (.fsl ((z.out).map Evt.r) false), (.fsl ((z.gone).map qfz) false), (ii z.n), (bb z.over)]] 0, .row 14 [[(ii 0), (ii 0), .fsl [] false, (ii 0), (ii 0), .fsl [] false, (ii 0), (ii 0), (ii 0), (ii 0), .fsl [] false, .fsl [] false, (ii 0), (bb false)]] 0, .row 4 [q.r] 0])))
theorem q9r (hk : e0.key.length ≤ 100000) (hpr : e0.proc = i) (hpl : p.length ≤ 1000) (hok : ∀ op ∈ p, OpOk' op) (h0 : 0 ≤ pr) (hp : c.progs[pr.toNat]? = some p) (x : Ex) (hx : ActInv e0 i 0 x) (hxp : ∃ q, x.procs[i]? = some q ∧ q.prog = pr) :
  ∃ y, itB (exec (evL T) itL none qes) (qr [2, 3, 4, 6, 7] true 2) ⟨[(2, (ii i)), (3, (.fptr [(.fsl ((c.lps).map lpC) false), (.fsl ((c.progs).map qc1) false), (ii c.look), (ii c.fin), (ii c.cap)])), (4, .ptr 0 0 0 0), (6, .ptr 1 0 0 0), (7, (ii 0))], []⟩ [.row 14 [[(ii x.r0), (ii x.r1), (.fsl ((x.procs).map Pr.r) false), (ii x.sum), (ii x.ev.time), (.fsl ((x.ev.key).map qb9) false), (ii x.ev.lp), (ii x.ev.kind), (ii x.ev.proc), (ii x.ev.arg), (.fsl ((x.out).map Evt.r) false), (.fsl ((x.gone).map qfz) false), (ii x.n), (bb x.over)]] 0, .row 14 [[(ii 0), (ii 0), .fsl [] false, (ii 0), (ii 0), .fsl [] false, (ii 0), (ii 0), (ii 0), (ii 0), .fsl [] false, .fsl [] false, (ii 0), (bb false)]] 0] = some y ∧ RefEnd e0 i (qlv p i 16 x) y := by
 have := qeu (f := exec (evL T) itL none qes) (s := qr [2, 3, 4, 6, 7] true 2) (α := Ex) (fun j _ => ⟨[(2, (ii i)), (3, (.fptr [(.fsl ((c.lps).map lpC) false), (.fsl ((c.progs).map qc1) false), (ii c.look), (ii c.fin), (ii c.cap)])), (4, .ptr 0 0 0 0), (6, .ptr 1 0 0 0), (7, (ii ((j : Int))))], []⟩) (fun _ a => [.row 14 [[(ii a.r0), (ii a.r1), (.fsl ((a.procs).map Pr.r) false), (ii a.sum), (ii a.ev.time), (.fsl ((a.ev.key).map qb9) false), (ii a.ev.lp), (ii a.ev.kind), (ii a.ev.proc), (ii a.ev.arg), (.fsl ((a.out).map Evt.r) false), (.fsl ((a.gone).map qfz) false), (ii a.n), (bb a.over)]] 0, .row 14 [[(ii 0), (ii 0), .fsl [] false, (ii 0), (ii 0), .fsl [] false, (ii 0), (ii 0), (ii 0), (ii 0), .fsl [] false, .fsl [] false, (ii 0), (bb false)]] 0])
  (fun j a => ActInv e0 i j a ∧ (∃ q, a.procs[i]? = some q ∧ q.prog = pr) ∧ qlv p i (16 - j) a = qlv p i 16 x) 16 (RefEnd e0 i (qlv p i 16 x)) ?_ ?_ 0 x (Nat.zero_le _) ⟨hx, hxp, rfl⟩
 ·exact this
 ·rintro j y hj ⟨hi1, ⟨q, hq, hqp⟩, hi2⟩
  have hpc : 0 ≤ q.pc ∧ q.pc ≤ 1000000 := by obtain ⟨q', h1, h2⟩ := hi1.has; rw [hq] at h1; cases h1; exact h2
  have hlt := (List.getElem?_eq_some_iff.1 hq).1
  have hpr' : y.ev.proc = i := by rw [hi1.ev]; exact hpr
  have hj' : (j : Int) < 16 := by omega
  have hw : IntKind.i64.wrap ((j : Int) + 1) = ((j + 1 : Nat) : Int) := by rw [qaw (by omega) (by omega)]; simp
  rw [show 16 - j = (16 - (j + 1)) + 1 from by omega, qyw p i _ y q hq] at hi2
  cases hop : p[q.pc.toNat]? with
  | none =>
   rw [hop] at hi2
   simp only at hi2
   have hge : q.pc ≥ (p.length : Int) := by have := List.getElem?_eq_none_iff.1 hop; omega
   right
   simp only [qes, hj', hge, zgs, zgr, zgq, zgt, hq, hqp, h0, hp, Pr.r, qc1, Ev.exec, qb, qe, qc, qai, Ev.Opnd.ev, Ev.Env.get, Ev.Env.set, Ev.look, qk, qae, Ev.AV.cells, qy, Ev.AV.plain, ql, qch, zgi, ↓qs, Ev.it1, ↓reduceIte, zga, zgb, zgd, zge, zgc, zgo, zfe, zgf, zgg, List.drop_nil, zgm, zgl, zgn, zgj, zgk, zgh, Nat.reduceAdd, Nat.reduceEqDiff, reduceCtorEq, zgv, zfc, zfa, zgx, ne_eq, zfb, zff, zfd, Nat.add_zero, Nat.le_refl, zgy]
   exact ⟨_, rfl, rfl, .inr ⟨rfl, y, ⟨hi1.ev, hi1.has, hi1.procs, by have := hi1.out; omega, by have := hi1.gone; omega⟩, hi2, rfl, rfl, rfl, .inr ⟨⟨pr, q.pc, q.alive, q.timer⟩, rfl⟩⟩⟩
  | some op =>
   rw [hop] at hi2
   simp only at hi2
   have hlp := (List.getElem?_eq_some_iff.1 hop).1
   have hge : ¬ q.pc ≥ (p.length : Int) := by omega
   have hoo := hok op (List.mem_of_getElem? hop)
   have hv := rstep_ev y i op q (hi1.small (by omega) hk) (by have := hi1.gone; omega) hpr' hq hoo
   have hn := hi1.stepR hq ⟨by omega, by omega⟩ hoo
   have hnp := q8y y i q op hq
   rw [hqp] at hnp
   generalize stepR y i q op = S at hi2 hn hv hnp
   obtain ⟨z, b⟩ := S
   simp only at hi2 hn hv hnp
   cases b with
   | true =>
    right
    simp only [if_true] at hi2
    simp only [qes, hj', hge, hv, zgs, zgr, zgq, zgt, hq, hqp, h0, hp, hpc, hop, Pr.r, OpI.r, qc1, qag, qau, qv, qbs, Ev.exec, qb, qe, qc, qa5, qai, Ev.evs, Ev.Opnd.ev, Ev.Env.get, Ev.Env.set, Ev.look, qk, qae, Ev.AV.cells, qy, Ev.AV.plain, ql, qch, qa1, qbd, qu, qj, qh, zgi, ↓qs, Ev.it1, ↓reduceIte, zga, zgb, zgd, zge, zgc, zgo, zfe, zgf, zgg, List.drop_nil, zgm, zgl, zgn, zgj, zgk, zgh, Nat.reduceAdd, Nat.reduceEqDiff, zgv, zgw, zfc, zfa, zgx, ne_eq, zfb, zff, zfd, Nat.add_zero, Nat.le_refl, zgy]
    exact ⟨_, rfl, rfl, .inl ⟨rfl, rfl, ⟨pr, q.pc, q.alive, q.timer⟩, by rw [← hi2]; rfl⟩⟩
   | false =>
    left
    simp only [zfa, if_false] at hi2
    refine ⟨z, ?_, hn, hnp, hi2⟩
    simp only [qes, hj', hge, hv, hw, zgs, zgr, zgq, zgt, hq, hqp, h0, hp, hpc, hop, Pr.r, OpI.r, qc1, qbe, qc4, qag, qau, qv, qbs, Nat.reduceLT, Ev.exec, qb, qe, qc, qa5, qai, Ev.evs, Ev.Opnd.ev, Ev.Env.get, Ev.Env.set, Ev.look, qk, qae, Ev.AV.cells, qy, Ev.AV.plain, qaf, ql, qch, qr, Ev.keep, qad, qw, qd, Ev.SObj.lo, qa1, qbd, qu, qb1, qf0, qj, qh, qac, qao, zgi, ↓qs, Ev.it1, ↓reduceIte, zga, zgb, zgd, zge, zgc, zgo, zfe, zgf, zgg, List.drop_nil, zgm, zgl, zgn, zgj, zgk, zgh, Nat.reduceAdd, Nat.reduceEqDiff, Nat.reduceLT, zgv, zgw, zfc, zfa, zgx, ne_eq, zfb, zff, zfd, Nat.add_zero, zgu, Nat.le_refl, zgy]
 ·rintro y ⟨hi1, _, hi2⟩
  simp only [qes, Int.lt_irrefl, Ev.exec, qb, qe, qc, qai, Ev.Opnd.ev, Ev.Env.get, Ev.Env.set, Ev.look, ql, ↓qs, Ev.it1, ↓reduceIte, Nat.reduceEqDiff, Int.cast_ofNat_Int, zgw, zfa, zgy]
  exact ⟨_, rfl, rfl, .inr ⟨rfl, y, hi1, hi2, rfl, rfl, rfl, .inl rfl⟩⟩
theorem qv3 (hk : e0.key.length ≤ 100000) (hpr : e0.proc = i) (hpl : p.length ≤ 1000) (hok : ∀ op ∈ p, OpOk' op) (h0 : 0 ≤ pr) (hp : c.progs[pr.toNat]? = some p) (x : Ex) (hx : ActInv e0 i 0 x) (hxp : ∃ q, x.procs[i]? = some q ∧ q.prog = pr) :
  qa4 (evL T) qgk [(.agg [(.fsl ((c.lps).map lpC) false), (.fsl ((c.progs).map qc1) false), (ii c.look), (ii c.fin), (ii c.cap)]), (.agg [(ii x.r0), (ii x.r1), (.fsl ((x.procs).map Pr.r) false), (ii x.sum), (ii x.ev.time), (.fsl ((x.ev.key).map qb9) false), (ii x.ev.lp), (ii x.ev.kind), (ii x.ev.proc), (ii x.ev.arg), (.fsl ((x.out).map Evt.r) false), (.fsl ((x.gone).map qfz) false), (ii x.n), (bb x.over)]), (ii i)] = some (.agg [(ii ((qlv p i 16 x).r0)), (ii ((qlv p i 16 x).r1)), (.fsl (((qlv p i 16 x).procs).map Pr.r) false), (ii ((qlv p i 16 x).sum)), (ii ((qlv p i 16 x).ev.time)), (.fsl (((qlv p i 16 x).ev.key).map qb9) false), (ii ((qlv p i 16 x).ev.lp)), (ii ((qlv p i 16 x).ev.kind)), (ii ((qlv p i 16 x).ev.proc)), (ii ((qlv p i 16 x).ev.arg)), (.fsl (((qlv p i 16 x).out).map Evt.r) false), (.fsl (((qlv p i 16 x).gone).map qfz) false), (ii ((qlv p i 16 x).n)), (bb ((qlv p i 16 x).over))]) := by
 obtain ⟨⟨y, e, σ⟩, k1, k2, k3⟩ := q9r c e0 i p pr hk hpr hpl hok h0 hp x hx hxp
 simp only at k2 k3
 generalize qlv p i 16 x = F at k3
 rw [qa4, qx quu qtj]
 rcases k3 with ⟨rfl, k4, q, rfl⟩ | ⟨rfl, z, kz, k4, k5, k6, k7, k8⟩
 ·simp only [qhj, k1, k2, k4, qbe, qc4, qag, qau, qv, qbs, Nat.reduceLT, qn, Ev.exec, qb, qe, qc, qai, Ev.Opnd.ev, Ev.Env.get, Ev.Env.set, Ev.look, qo, qk, qae, Ev.AV.cells, qy, Ev.AV.plain, qm, qab, qaj, Ev.kill, qah, qr, Ev.keep, qad, qw, qd, Ev.SObj.lo, qa1, qbd, qu, qb1, qf0, qj, qh, qac, qao, qal, ↓qs, ↓qaq, ↓reduceIte, zga, zgb, zgd, zge, zgc, zgo, zfe, zgg, zgm, zgl, Nat.reduceAdd, Nat.reduceEqDiff, Nat.reduceLT, reduceCtorEq, zgv, zfc, zgx, ne_eq, zfb, zff, zfd, zgu, Nat.le_refl, zgy]
 ·obtain ⟨q, hq, hpc⟩ := kz.has
  have hlt := (List.getElem?_eq_some_iff.1 hq).1
  have hv := qeh z (by have := kz.procs; omega) i hlt { q with alive := false }
  have hkz : qmo z i = z.setP i { q with alive := false } := by unfold qmo; rw [hq]
  rw [hkz] at k4
  subst k4
  simp only at hv
  rcases k8 with rfl | ⟨q2, rfl⟩
  ·simp only [qhj, k1, k2, k5, k6, k7, hq, hv, Pr.r, zgs, zgr, zgq, zgt, qbe, qc4, qag, qau, qv, qbs, Nat.reduceLT, Nat.reduceLeDiff, qn, Ev.exec, qb, qe, qc, qa5, qai, Ev.evs, Ev.Opnd.ev, Ev.Env.get, Ev.Env.set, Ev.look, qo, qk, qae, Ev.AV.cells, Ev.AV.uc, qy, Ev.AV.plain, qm, qab, qaj, Ev.kill, qah, qr, Ev.keep, qad, qw, qd, Ev.SObj.lo, qa1, qbd, qu, qb1, qf0, qj, qh, qac, qao, qal, ↓qs, ↓qaq, ↓reduceIte, zga, zgb, zgd, zge, zgc, zgo, zfe, zgf, zgg, List.drop_nil, zgm, zgl, zgn, zgj, zgk, zgh, Nat.reduceAdd, Nat.reduceEqDiff, Nat.reduceLT, Nat.reduceLeDiff, reduceCtorEq, zgv, zfc, zfa, zgx, ne_eq, zfb, zff, zfd, Nat.add_zero, zgu, Nat.le_refl, zgy]
  ·simp only [qhj, k1, k2, k5, k6, k7, hq, hv, Pr.r, zgs, zgr, zgq, zgt, qbe, qc4, qag, qau, qv, qbs, Nat.reduceLT, Nat.reduceLeDiff, qn, Ev.exec, qb, qe, qc, qa5, qai, Ev.evs, Ev.Opnd.ev, Ev.Env.get, Ev.Env.set, Ev.look, qo, qk, qae, Ev.AV.cells, Ev.AV.uc, qy, Ev.AV.plain, qm, qab, qaj, Ev.kill, qah, qr, Ev.keep, qad, qw, qd, Ev.SObj.lo, qa1, qbd, qu, qb1, qf0, qj, qh, qac, qao, qal, ↓qs, ↓qaq, ↓reduceIte, zga, zgb, zgd, zge, zgc, zgo, zfe, zgf, zgg, List.drop_nil, zgm, zgl, zgn, zgj, zgk, zgh, Nat.reduceAdd, Nat.reduceEqDiff, Nat.reduceLT, Nat.reduceLeDiff, reduceCtorEq, zgv, zfc, zfa, zgx, ne_eq, zfb, zff, zfd, Nat.add_zero, zgu, Nat.le_refl, zgy]
end
set_option maxRecDepth 10000
section
variable (c : Cfg) (x : Lp) (e : Evt)
theorem qab2 (hk : e.kind = 3) : qa4 (evL T) qf8 [(.agg [(.fsl ((c.lps).map lpC) false), (.fsl ((c.progs).map qc1) false), (ii c.look), (ii c.fin), (ii c.cap)]), (.agg [(ii x.r0), (ii x.r1), (.fsl ((x.procs).map Pr.r) false), (ii x.sum)]), (.agg [(ii e.time), (.fsl ((e.key).map qb9) false), (ii e.lp), (ii e.kind), (ii e.proc), (ii e.arg)])] = some (.tup [(.agg [(ii ((⟨x.r0, x.r1, x.procs, w64 (x.sum + e.arg)⟩ : Lp).r0)), (ii ((⟨x.r0, x.r1, x.procs, w64 (x.sum + e.arg)⟩ : Lp).r1)), (.fsl (((⟨x.r0, x.r1, x.procs, w64 (x.sum + e.arg)⟩ : Lp).procs).map Pr.r) false), (ii ((⟨x.r0, x.r1, x.procs, w64 (x.sum + e.arg)⟩ : Lp).sum))]), .fsl [] true, .fsl [] true, (bb false)]) := by
 rw [qa4, qx qmj qlw]
 simp only [qci, hk, qau, Nat.reduceLeDiff, qn, Ev.exec, qb, qe, qc, qai, Ev.Opnd.ev, Ev.Env.get, Ev.Env.set, Ev.look, qo, qk, qae, qg6, Ev.AV.cells, Ev.AV.uc, qy, Ev.AV.plain, qaf, qam, qm, qab, qaj, Ev.kill, qah, qd, qa1, qbd, qba, qu, qj, qh, qac, qal, ↓qs, ↓reduceIte, zga, zgb, zgd, zge, zgc, zgo, zfe, zgf, zgg, List.drop_nil, zgm, zgl, zgn, zgj, zgk, zgh, Nat.reduceAdd, Nat.reduceEqDiff, Nat.reduceLeDiff, reduceCtorEq, zgv, zfc, zfa, zgx, ne_eq, zfb, zff, zfd, Nat.add_zero, Nat.le_refl, zgy]
theorem q78 (hk : ¬ e.kind = 3) (ha : qmy x e = none) : qa4 (evL T) qf8 [(.agg [(.fsl ((c.lps).map lpC) false), (.fsl ((c.progs).map qc1) false), (ii c.look), (ii c.fin), (ii c.cap)]), (.agg [(ii x.r0), (ii x.r1), (.fsl ((x.procs).map Pr.r) false), (ii x.sum)]), (.agg [(ii e.time), (.fsl ((e.key).map qb9) false), (ii e.lp), (ii e.kind), (ii e.proc), (ii e.arg)])] = some (.tup [(.agg [(ii x.r0), (ii x.r1), (.fsl ((x.procs).map Pr.r) false), (ii x.sum)]), .fsl [] true, .fsl [] true, (bb false)]) := by
 rw [qa4, qx qmj qlw]
 by_cases k1 : e.kind = 1
 case neg =>
  by_cases k2 : e.kind = 2
  case neg => simp only [qci, hk, k1, k2, qau, Nat.reduceLeDiff, qn, Ev.exec, qb, qe, qc, qai, Ev.Opnd.ev, Ev.Env.get, Ev.Env.set, Ev.Env.unset, Ev.look, qo, qk, qae, qg6, Ev.AV.cells, qy, Ev.AV.plain, qam, qbx, qm, qab, qaj, Ev.kill, qah, qd, qa1, qbd, qba, qu, qj, qh, qac, qal, ↓qs, ↓reduceIte, zga, zgb, zgd, zge, zgc, zgo, zfe, zgf, zgg, List.drop_nil, zgm, zgl, zgn, zgj, zgk, zgh, Nat.reduceAdd, Nat.reduceEqDiff, Nat.reduceLeDiff, reduceCtorEq, zgv, zgw, zfc, zfa, Bool.true_eq_false, zgx, ne_eq, zfb, zff, zfd, Nat.le_refl, zgy]
  by_cases h1 : e.proc < 0
  ·simp only [qci, k2, h1, qau, Nat.reduceLeDiff, qn, Ev.exec, qb, qe, qc, qai, Ev.Opnd.ev, Ev.Env.get, Ev.Env.set, Ev.Env.unset, Ev.look, qo, qk, qae, qg6, Ev.AV.cells, qy, Ev.AV.plain, qam, qbx, ql, qm, qab, qaj, Ev.kill, qah, qd, qa1, qbd, qba, qu, qj, qh, qac, qal, ↓qs, ↓reduceIte, zga, zgb, zgd, zge, zgc, zgo, zfe, zgf, zgg, List.drop_nil, zgm, zgl, zgn, zgj, zgk, zgh, Nat.reduceAdd, Nat.reduceEqDiff, Nat.reduceLeDiff, Int.reduceEq, reduceCtorEq, zgv, zgw, zfc, zfa, Bool.true_eq_false, zgx, ne_eq, zfb, not_true_eq_false, zff, zfd, Nat.le_refl, zgy]
  by_cases h2 : e.proc ≥ (x.procs.length : Int)
  ·simp only [qci, k2, h1, h2, qau, Nat.reduceLeDiff, qn, Ev.exec, qb, qe, qc, qai, Ev.Opnd.ev, Ev.Env.get, Ev.Env.set, Ev.Env.unset, Ev.look, qo, qk, qae, qg6, Ev.AV.cells, qy, Ev.AV.plain, qam, qbx, ql, qch, qm, qab, qaj, Ev.kill, qah, qd, qa1, qbd, qba, qu, qj, qh, qac, qal, zgi, ↓qs, ↓reduceIte, zga, zgb, zgd, zge, zgc, zgo, zfe, zgf, zgg, List.drop_nil, zgm, zgl, zgn, zgj, zgk, zgh, Nat.reduceAdd, Nat.reduceEqDiff, Nat.reduceLeDiff, Int.reduceEq, reduceCtorEq, zgv, zgw, zfc, zfa, Bool.true_eq_false, zgx, ne_eq, zfb, not_true_eq_false, zff, zfd, Nat.le_refl, zgy]
  obtain ⟨q, hq⟩ : ∃ q, x.procs[e.proc.toNat]? = some q := ⟨_, List.getElem?_eq_getElem (by omega)⟩
  have h0 : 0 ≤ e.proc := by omega
  have hal : q.alive = false := by
   unfold qmy at ha
   rw [if_pos ⟨.inr k2, h0⟩, hq] at ha
   cases h : q.alive with
   | false => rfl
   | true => simp [h] at ha
  simp only [qci, k2, h0, h1, h2, hq, hal, zgq, zgt, Pr.r, qau, Nat.reduceLeDiff, qn, Ev.exec, qb, qe, qc, qai, Ev.Opnd.ev, Ev.Env.get, Ev.Env.set, Ev.look, qo, qk, qae, qg6, Ev.AV.cells, qy, Ev.AV.plain, qam, qbx, ql, qch, qm, qab, qaj, Ev.kill, qah, qd, qa1, qbd, qba, qu, qj, qh, qac, qal, zgi, ↓qs, ↓reduceIte, zga, zgb, zgd, zge, zgc, zgo, zfe, zgf, zgg, List.drop_nil, zgm, zgl, zgn, zgj, zgk, zgh, Nat.reduceAdd, Nat.reduceEqDiff, Nat.reduceLeDiff, Int.reduceEq, reduceCtorEq, zgv, zgw, zfc, Bool.not_false, zfa, zgx, ne_eq, zfb, not_true_eq_false, zff, zfd, Nat.le_refl, zgy]
 by_cases h1 : e.proc < 0
 ·simp only [qci, k1, h1, qau, Nat.reduceLeDiff, qn, Ev.exec, qb, qe, qc, qai, Ev.Opnd.ev, Ev.Env.get, Ev.Env.set, Ev.Env.unset, Ev.look, qo, qk, qae, qg6, Ev.AV.cells, qy, Ev.AV.plain, qam, qbx, ql, qm, qab, qaj, Ev.kill, qah, qd, qa1, qbd, qba, qu, qj, qh, qac, qal, ↓qs, ↓reduceIte, zga, zgb, zgd, zge, zgc, zgo, zfe, zgf, zgg, List.drop_nil, zgm, zgl, zgn, zgj, zgk, zgh, Nat.reduceAdd, Nat.reduceEqDiff, Nat.reduceLeDiff, Int.reduceEq, reduceCtorEq, zgv, zgw, zfc, zfa, Bool.true_eq_false, zgx, ne_eq, zfb, not_true_eq_false, zff, zfd, Nat.le_refl, zgy]
 by_cases h2 : e.proc ≥ (x.procs.length : Int)
 ·simp only [qci, k1, h1, h2, qau, Nat.reduceLeDiff, qn, Ev.exec, qb, qe, qc, qai, Ev.Opnd.ev, Ev.Env.get, Ev.Env.set, Ev.Env.unset, Ev.look, qo, qk, qae, qg6, Ev.AV.cells, qy, Ev.AV.plain, qam, qbx, ql, qch, qm, qab, qaj, Ev.kill, qah, qd, qa1, qbd, qba, qu, qj, qh, qac, qal, zgi, ↓qs, ↓reduceIte, zga, zgb, zgd, zge, zgc, zgo, zfe, zgf, zgg, List.drop_nil, zgm, zgl, zgn, zgj, zgk, zgh, Nat.reduceAdd, Nat.reduceEqDiff, Nat.reduceLeDiff, Int.reduceEq, reduceCtorEq, zgv, zgw, zfc, zfa, Bool.true_eq_false, zgx, ne_eq, zfb, not_true_eq_false, zff, zfd, Nat.le_refl, zgy]
 obtain ⟨q, hq⟩ : ∃ q, x.procs[e.proc.toNat]? = some q := ⟨_, List.getElem?_eq_getElem (by omega)⟩
 have h0 : 0 ≤ e.proc := by omega
 have hal : q.alive = false := by
  unfold qmy at ha
  rw [if_pos ⟨.inl k1, h0⟩, hq] at ha
  cases h : q.alive with
  | false => rfl
  | true => simp [h] at ha
 simp only [qci, k1, h0, h1, h2, hq, hal, zgq, zgt, Pr.r, qau, Nat.reduceLeDiff, qn, Ev.exec, qb, qe, qc, qai, Ev.Opnd.ev, Ev.Env.get, Ev.Env.set, Ev.Env.unset, Ev.look, qo, qk, qae, qg6, Ev.AV.cells, qy, Ev.AV.plain, qam, qbx, ql, qch, qm, qab, qaj, Ev.kill, qah, qd, qa1, qbd, qba, qu, qj, qh, qac, qal, zgi, ↓qs, ↓reduceIte, zga, zgb, zgd, zge, zgc, zgo, zfe, zgf, zgg, List.drop_nil, zgm, zgl, zgn, zgj, zgk, zgh, Nat.reduceAdd, Nat.reduceEqDiff, Nat.reduceLeDiff, Int.reduceEq, reduceCtorEq, zgw, zfc, Bool.not_false, zfa, zgx, ne_eq, zfb, not_true_eq_false, zff, zfd, Nat.le_refl, zgy]
theorem qaat (h : qus c x e) {q : Pr} (ha : qmy x e = some q) :
  qa4 (evL T) qf8 [(.agg [(.fsl ((c.lps).map lpC) false), (.fsl ((c.progs).map qc1) false), (ii c.look), (ii c.fin), (ii c.cap)]), (.agg [(ii x.r0), (ii x.r1), (.fsl ((x.procs).map Pr.r) false), (ii x.sum)]), (.agg [(ii e.time), (.fsl ((e.key).map qb9) false), (ii e.lp), (ii e.kind), (ii e.proc), (ii e.arg)])] = some (.tup [(.agg [(ii ((q4j (qq1 c x e q)).r0)), (ii ((q4j (qq1 c x e q)).r1)), (.fsl (((q4j (qq1 c x e q)).procs).map Pr.r) false), (ii ((q4j (qq1 c x e q)).sum))]), (.fsl (((qq1 c x e q).out).map Evt.r) false), (.fsl (((qq1 c x e q).gone).map qfz) false), (bb ((qq1 c x e q).over))]) := by
 unfold qmy at ha
 split at ha
 case isFalse => cases ha
 rename_i hc
 obtain ⟨hkind, h0⟩ := hc
 obtain ⟨i, hi⟩ : ∃ i : Nat, e.proc = i := ⟨_, (Int.toNat_of_nonneg h0).symm⟩
 have hin : e.proc.toNat = i := by omega
 rw [hin, Option.bind_eq_some_iff] at ha
 obtain ⟨q', hq, ha⟩ := ha
 split at ha
 case isFalse => cases ha
 rename_i hal
 cases ha
 have hlt := (List.getElem?_eq_some_iff.1 hq).1
 obtain ⟨p1, p2, p3, p4, p5⟩ := h.proc q (List.mem_of_getElem? hq)
 obtain ⟨p, hp⟩ : ∃ p, c.progs[q.prog.toNat]? = some p := ⟨_, List.getElem?_eq_getElem (by omega)⟩
 obtain ⟨pl, pok⟩ := h.prog p (List.mem_of_getElem? hp)
 have hinv := qyq c x e h hi hq
 have hxp : ∃ q', ((qc7 x e).setP i (qjk e q)).procs[i]? = some q' ∧ q'.prog = q.prog := ⟨qjk e q, by simp only [Ex.setP, qc7]; rw [List.getElem?_set_self hlt], qyr e q⟩
 have hact := qv3 c e i p q.prog h.key hi pl pok p1 hp ((qc7 x e).setP i (qjk e q)) hinv hxp
 have hrun : qq1 c x e q = qlv p i 16 ((qc7 x e).setP i (qjk e q)) := by unfold qq1; rw [hin, hp]; rfl
 rw [hrun]
 generalize qlv p i 16 ((qc7 x e).setP i (qjk e q)) = F at hact
 have h1 : ¬ e.proc < 0 := by omega
 have h2 : ¬ e.proc ≥ (x.procs.length : Int) := by omega
 have h3 : ¬ e.kind = 3 := by omega
 rw [hi] at h0 h1 h2
 rw [qa4, qx qmj qlw]
 rcases hkind with k1 | k2
 ·have hwk : qjk e q = q := by unfold qjk; rw [if_neg (by omega)]
  have hss : x.procs.set i q = x.procs := by
   obtain ⟨hlt', hge⟩ := List.getElem?_eq_some_iff.1 hq
   rw [← hge, List.set_getElem_self]
  have k3 : ¬ (1 : Int) = 3 := by decide
  have k4 : ¬ (1 : Int) = 2 := by decide
  rw [hwk] at hact
  simp only [qc7, Ex.setP, hss, List.map_nil, hi, k1] at hact
  simp only [qci, k1, k3, k4, h0, h1, h2, hi, hq, hal, hact, q4j, zgr, zgq, zgt, Pr.r, qc4, qbe, qag, qau, qv, qbs, Nat.reduceLeDiff, qn, Ev.exec, qb, qe, qc, qa5, qai, Ev.evs, Ev.Opnd.ev, Ev.Env.get, Ev.Env.set, Ev.Env.unset, Ev.look, qo, qk, qae, qg6, Ev.AV.cells, qy, Ev.AV.plain, qam, qbx, ql, qch, qm, qab, qaj, Ev.kill, qah, qd, qa1, qbd, qba, qu, qnh, Ev.AV.obj?, qj, qh, qac, qal, zgi, ↓qs, ↓reduceIte, zga, zgb, zgd, zge, zgc, zgo, zfe, zgf, zgg, List.drop_nil, zgm, zgl, zgn, zgj, zgk, zgh, Nat.reduceAdd, Nat.reduceEqDiff, Nat.reduceBEq, Nat.reduceLeDiff, reduceCtorEq, zgw, zfc, Bool.not_true, Bool.not_false, zfa, zgx, ne_eq, zfb, not_true_eq_false, zff, zfd, Nat.add_zero, Nat.le_refl, zgy]
  done
 ·have k1 : ¬ (2 : Int) = 1 := by decide
  have k3 : ¬ (2 : Int) = 3 := by decide
  have hkl := h.key
  have hwk : qjk e q = { q with pc := e.arg, timer := if q.timer = e.key then [] else q.timer } := by unfold qjk; rw [if_pos k2]
  obtain ⟨qp, qpc, qa, qt⟩ := q
  dsimp only at *
  subst hal
  have heq := qwk qt e.key false false (by omega) (by omega)
  rw [hwk] at hact
  have hpt : ∀ q0 : Pr, qa4 (evL T) qey [(.agg [(ii ((qc7 x e).r0)), (ii ((qc7 x e).r1)), (.fsl (((qc7 x e).procs).map Pr.r) false), (ii ((qc7 x e).sum)), (ii ((qc7 x e).ev.time)), (.fsl (((qc7 x e).ev.key).map qb9) false), (ii ((qc7 x e).ev.lp)), (ii ((qc7 x e).ev.kind)), (ii ((qc7 x e).ev.proc)), (ii ((qc7 x e).ev.arg)), (.fsl (((qc7 x e).out).map Evt.r) false), (.fsl (((qc7 x e).gone).map qfz) false), (ii ((qc7 x e).n)), (bb ((qc7 x e).over))]), (ii i), (.agg [(ii q0.prog), (ii q0.pc), (bb q0.alive), (.fsl ((q0.timer).map qb9) false)])] = some (.agg [(ii (((qc7 x e).setP i q0).r0)), (ii (((qc7 x e).setP i q0).r1)), (.fsl ((((qc7 x e).setP i q0).procs).map Pr.r) false), (ii (((qc7 x e).setP i q0).sum)), (ii (((qc7 x e).setP i q0).ev.time)), (.fsl ((((qc7 x e).setP i q0).ev.key).map qb9) false), (ii (((qc7 x e).setP i q0).ev.lp)), (ii (((qc7 x e).setP i q0).ev.kind)), (ii (((qc7 x e).setP i q0).ev.proc)), (ii (((qc7 x e).setP i q0).ev.arg)), (.fsl ((((qc7 x e).setP i q0).out).map Evt.r) false), (.fsl ((((qc7 x e).setP i q0).gone).map qfz) false), (ii (((qc7 x e).setP i q0).n)), (bb (((qc7 x e).setP i q0).over))]) := fun q0 => qeh (qc7 x e) (by show x.procs.length ≤ 1000; have := h.procs; omega) i hlt q0
  by_cases ht : qt = e.key
  ·have hp2 := hpt ⟨qp, e.arg, true, []⟩
   simp only [ht, if_true] at hact
   simp only [ht, zgv] at heq
   simp only [qc7, Ex.setP, List.map_nil, hi, k2] at hact hp2
   by_cases hz : e.key = []
   ·have z0 : ¬ (0 : Int) > 0 := by decide
    have hl0 : (([] : List Int).length : Int) = 0 := rfl
    rw [hz] at ht
    simp only [hz, List.map_nil] at hact hp2
    simp only [qci, k1, k2, k3, h0, h1, h2, hi, hq, hz, z0, hp2, ht, hact, List.map_nil, zgb, q4j, zgr, zgq, zgt, Pr.r, qc4, qbe, qau, qv, qbs, Nat.reduceLeDiff, qn, Ev.exec, qb, qe, qc, qa5, qai, Ev.evs, Ev.Opnd.ev, Ev.Env.get, Ev.Env.set, Ev.Env.unset, Ev.look, qo, qk, qae, qg6, Ev.AV.cells, Ev.AV.uc, qy, Ev.AV.plain, qam, qbx, ql, qas, qch, qm, qab, qaj, Ev.kill, qah, qd, qa1, qbd, qba, qu, qnh, Ev.AV.obj?, qj, qh, qac, qal, zgi, ↓qs, ↓reduceIte, zga, zgb, zgd, zge, zgc, zgo, zfe, zgf, zgg, List.drop_nil, zgm, zgl, zgn, zgj, zgk, zgh, Nat.reduceAdd, Nat.reduceEqDiff, Nat.reduceBEq, Nat.reduceLeDiff, Int.cast_ofNat_Int, reduceCtorEq, zgv, zgw, zfc, Bool.not_true, Bool.not_false, zfa, zgx, ne_eq, zfb, not_true_eq_false, zff, zfd, Nat.add_zero, Nat.le_refl, zgy]
    done
   ·have hz' : (e.key.length : Int) > 0 := by have := List.length_pos_iff.2 hz; omega
    simp only [qci, k1, k2, k3, h0, h1, h2, hi, hq, hz', heq, hp2, ht, hact, q4j, zgr, zgq, zgt, Pr.r, qc4, qbe, qag, qau, qv, qbs, Nat.reduceLeDiff, qn, Ev.exec, qb, qe, qc, qa5, qai, Ev.evs, Ev.Opnd.ev, Ev.Env.get, Ev.Env.set, Ev.look, qo, qk, qae, qg6, Ev.AV.cells, Ev.AV.uc, qy, Ev.AV.plain, qam, qbx, ql, qas, qch, qm, qab, qaj, Ev.kill, qah, qd, qa1, qbd, qba, qu, qnh, Ev.AV.obj?, qj, qh, qac, qal, zgi, ↓qs, ↓reduceIte, zga, zgb, zgd, zge, zgc, zgo, zfe, zgf, zgg, List.drop_nil, zgm, zgl, zgn, zgj, zgk, zgh, Nat.reduceAdd, Nat.reduceEqDiff, Nat.reduceBEq, Nat.reduceLeDiff, reduceCtorEq, zgv, zgw, zfc, Bool.not_true, Bool.not_false, zfa, zgx, ne_eq, zfb, not_true_eq_false, zff, zfd, Nat.add_zero, Nat.le_refl, zgy]
    done
  ·have hp2 := hpt ⟨qp, e.arg, true, qt⟩
   simp only [ht, if_false] at hact
   simp only [ht, zgw] at heq
   simp only [qc7, Ex.setP, List.map_nil, hi, k2] at hact hp2
   by_cases hz : (qt.length : Int) > 0
   ·simp only [qci, k1, k2, k3, h0, h1, h2, hi, hq, hz, heq, hp2, hact, q4j, zgr, zgq, zgt, Pr.r, qc4, qbe, qag, qau, qv, qbs, Nat.reduceLeDiff, qn, Ev.exec, qb, qe, qc, qa5, qai, Ev.evs, Ev.Opnd.ev, Ev.Env.get, Ev.Env.set, Ev.look, qo, qk, qae, qg6, Ev.AV.cells, Ev.AV.uc, qy, Ev.AV.plain, qam, qbx, ql, qas, qch, qm, qab, qaj, Ev.kill, qah, qd, qa1, qbd, qba, qu, qnh, Ev.AV.obj?, qj, qh, qac, qal, zgi, ↓qs, ↓reduceIte, zga, zgb, zgd, zge, zgc, zgo, zfe, zgf, zgg, List.drop_nil, zgm, zgl, zgn, zgj, zgk, zgh, Nat.reduceAdd, Nat.reduceEqDiff, Nat.reduceBEq, Nat.reduceLeDiff, reduceCtorEq, zgv, zgw, zfc, Bool.not_true, Bool.not_false, zfa, zgx, ne_eq, zfb, not_true_eq_false, zff, zfd, Nat.add_zero, Nat.le_refl, zgy]
    done
   ·simp only [qci, k1, k2, k3, h0, h1, h2, hi, hq, hz, hp2, hact, q4j, zgr, zgq, zgt, Pr.r, qc4, qbe, qag, qau, qv, qbs, Nat.reduceLeDiff, qn, Ev.exec, qb, qe, qc, qa5, qai, Ev.evs, Ev.Opnd.ev, Ev.Env.get, Ev.Env.set, Ev.Env.unset, Ev.look, qo, qk, qae, qg6, Ev.AV.cells, Ev.AV.uc, qy, Ev.AV.plain, qam, qbx, ql, qas, qch, qm, qab, qaj, Ev.kill, qah, qd, qa1, qbd, qba, qu, qnh, Ev.AV.obj?, qj, qh, qac, qal, zgi, ↓qs, ↓reduceIte, zga, zgb, zgd, zge, zgc, zgo, zfe, zgf, zgg, List.drop_nil, zgm, zgl, zgn, zgj, zgk, zgh, Nat.reduceAdd, Nat.reduceEqDiff, Nat.reduceBEq, Nat.reduceLeDiff, reduceCtorEq, zgv, zgw, zfc, Bool.not_true, Bool.not_false, zfa, zgx, ne_eq, zfb, not_true_eq_false, zff, zfd, Nat.add_zero, Nat.le_refl, zgy]
    done
end
end Go.Proofs.YtbhhifdhlafklaaGreat.K
