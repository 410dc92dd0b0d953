/- For every input the statement of this claim returns true: texts of its proof, joined (part 8). -/
import Derived.Test.YtbhhifdhlafklaaGWT06
set_option linter.unusedSectionVars false
set_option linter.unusedSimpArgs false
set_option linter.unusedVariables false
namespace Go.Proofs.Ytbhhifdhlafklaa.K
open Go.Ev
set_option maxRecDepth 10000
def qe7 : List (Int × AV) := [(1, .fn (.func qb2) [] []), (2, .fn (.func qb3) [] []), (3, .fn (.func qbx) [] []), (4, .fn (.func qbt) [] []), (5, .fn (.func qbz) [] []), (6, .fn (.func qb8) [] []), (7, .fn (.func qb4) [] []), (8, .fn (.func qb6) [] [])]
section
variable (a0 a1 a2 : Int) (am : Nat) (x : Ex) (gp gc gg : Nat)
theorem qqw (i : Nat) (hi : x.ev.proc = i) (hp : i < x.procs.length) :
    (evL T).call qap [.ptr 5 0 0 0] [.row 4 [[(ii a0), (ii a1), .sl 2 0 0 am false, (ii a2)]] 0, .row 4 [[(ii 0), (ii 0), .fsl [] false, (ii 0)]] 0, .row 4 ((x.procs).map Pr.r) gp, .row 6 ((x.out).map Evt.r) gc, .row 1 ((x.gone).map qep) gg, .row 14 [[(ii x.r0), (ii x.r1), .sl 2 gp 0 x.procs.length false, (ii x.sum), (ii x.ev.time), (.fsl ((x.ev.key).map qby) false), (ii x.ev.lp), (ii x.ev.kind), (ii x.ev.proc), (ii x.ev.arg), .sl 3 gc 0 x.out.length false, (ii x.n), .sl 4 gg 0 x.gone.length false, (bb x.over)]] 0, .mp .i64 qe7] = some (.ptr 2 gp i 0, [.row 4 [[(ii a0), (ii a1), .sl 2 0 0 am false, (ii a2)]] 0, .row 4 [[(ii 0), (ii 0), .fsl [] false, (ii 0)]] 0, .row 4 ((x.procs).map Pr.r) gp, .row 6 ((x.out).map Evt.r) gc, .row 1 ((x.gone).map qep) gg, .row 14 [[(ii x.r0), (ii x.r1), .sl 2 gp 0 x.procs.length false, (ii x.sum), (ii x.ev.time), (.fsl ((x.ev.key).map qby) false), (ii x.ev.lp), (ii x.ev.kind), (ii x.ev.proc), (ii x.ev.arg), .sl 3 gc 0 x.out.length false, (ii x.n), .sl 4 gg 0 x.gone.length false, (bb x.over)]] 0, .mp .i64 qe7]) := by
  rw [qad qjo qi9]
  simp only [qd6, hi, hp, Int.natCast_nonneg, Int.toNat_natCast, qw, qae, qaa, qbn, Nat.reduceLT, qj, Ev.exec, qb, qe, qc, qai, Ev.Opnd.ev, Ev.Env.get, Ev.Env.set, Ev.look, qk, qf, qv, qi, qq, qaj, Ev.kill, qag, qg, Ev.SObj.lo, qbb, qm, qds, qg6, qh, qd, qu, qak, ↓qn, ↓reduceIte, List.length_cons, List.length_nil, List.getElem?_cons_zero, List.getElem?_cons_succ, List.take_succ_cons, zfe, List.drop_succ_cons, List.drop_zero, List.head?_cons, Nat.reduceAdd, Nat.reduceEqDiff, Nat.reduceLT, reduceCtorEq, decide_true, zfc, zfa, and_self, zfd, Nat.add_zero, eq_self]
theorem q8q (k p a : Int) : (evL T).call qb7 [.ptr 5 0 0 0, (ii k), (ii p), (ii a)] [.row 4 [[(ii a0), (ii a1), .sl 2 0 0 am false, (ii a2)]] 0, .row 4 [[(ii 0), (ii 0), .fsl [] false, (ii 0)]] 0, .row 4 ((x.procs).map Pr.r) gp, .row 6 ((x.out).map Evt.r) gc, .row 1 ((x.gone).map qep) gg, .row 14 [[(ii x.r0), (ii x.r1), .sl 2 gp 0 x.procs.length false, (ii x.sum), (ii x.ev.time), (.fsl ((x.ev.key).map qby) false), (ii x.ev.lp), (ii x.ev.kind), (ii x.ev.proc), (ii x.ev.arg), .sl 3 gc 0 x.out.length false, (ii x.n), .sl 4 gg 0 x.gone.length false, (bb x.over)]] 0, .mp .i64 qe7] = some (.agg [(ii 0), .fsl [] false, (ii x.ev.lp), (ii k), (ii p), (ii a)], [.row 4 [[(ii a0), (ii a1), .sl 2 0 0 am false, (ii a2)]] 0, .row 4 [[(ii 0), (ii 0), .fsl [] false, (ii 0)]] 0, .row 4 ((x.procs).map Pr.r) gp, .row 6 ((x.out).map Evt.r) gc, .row 1 ((x.gone).map qep) gg, .row 14 [[(ii x.r0), (ii x.r1), .sl 2 gp 0 x.procs.length false, (ii x.sum), (ii x.ev.time), (.fsl ((x.ev.key).map qby) false), (ii x.ev.lp), (ii x.ev.kind), (ii x.ev.proc), (ii x.ev.arg), .sl 3 gc 0 x.out.length false, (ii x.n), .sl 4 gg 0 x.gone.length false, (bb x.over)]] 0, .mp .i64 qe7]) := by
  rw [qad qnt qm2]
  simp only [qfp, qw, qae, qaa, qbn, Nat.reduceLT, Nat.reduceLeDiff, qj, Ev.exec, qb, qe, qc, qai, Ev.Opnd.ev, Ev.Env.get, Ev.Env.set, Ev.look, qk, qf, qv, qfz, Ev.AV.cells, Ev.AV.uc, qo, Ev.AV.plain, qi, qq, qaj, Ev.kill, qag, qg, Ev.SObj.lo, qbb, qa2, qm, qds, qh, qd, qu, qak, ↓qn, ↓reduceIte, List.length_cons, List.length_nil, List.getElem?_cons_zero, List.getElem?_cons_succ, List.take_succ_cons, List.take_zero, zfe, List.drop_succ_cons, List.drop_zero, List.drop_nil, List.cons_append, List.nil_append, List.append_nil, List.set_cons_zero, List.set_cons_succ, List.head?_cons, Nat.reduceAdd, Nat.reduceEqDiff, Nat.reduceLT, Nat.reduceLeDiff, reduceCtorEq, decide_true, zfc, zfa, and_self, ne_eq, zfb, zff, zfd, Nat.le_refl, eq_self]
def qlc (x : Ex) (d : Int) (gc : Nat) : Nat := if w64 (x.ev.time + d) > 1152921504606846976 then gc else gc + 1
theorem qto (h : x.Small) (d : Int) (t0 lp k p a : Int) (ks : List Int) :
    (evL T).call qbj [.ptr 5 0 0 0, (ii d), .agg [(ii t0), (.fsl ((ks).map qby) false), (ii lp), (ii k), (ii p), (ii a)]] [.row 4 [[(ii a0), (ii a1), .sl 2 0 0 am false, (ii a2)]] 0, .row 4 [[(ii 0), (ii 0), .fsl [] false, (ii 0)]] 0, .row 4 ((x.procs).map Pr.r) gp, .row 6 ((x.out).map Evt.r) gc, .row 1 ((x.gone).map qep) gg, .row 14 [[(ii x.r0), (ii x.r1), .sl 2 gp 0 x.procs.length false, (ii x.sum), (ii x.ev.time), (.fsl ((x.ev.key).map qby) false), (ii x.ev.lp), (ii x.ev.kind), (ii x.ev.proc), (ii x.ev.arg), .sl 3 gc 0 x.out.length false, (ii x.n), .sl 4 gg 0 x.gone.length false, (bb x.over)]] 0, .mp .i64 qe7] = some ((.fsl ((x.kid).map qby) false), [.row 4 [[(ii a0), (ii a1), .sl 2 0 0 am false, (ii a2)]] 0, .row 4 [[(ii 0), (ii 0), .fsl [] false, (ii 0)]] 0, .row 4 (((x.create d ⟨t0, ks, lp, k, p, a⟩).procs).map Pr.r) gp, .row 6 (((x.create d ⟨t0, ks, lp, k, p, a⟩).out).map Evt.r) (qlc x d gc), .row 1 (((x.create d ⟨t0, ks, lp, k, p, a⟩).gone).map qep) gg, .row 14 [[(ii ((x.create d ⟨t0, ks, lp, k, p, a⟩).r0)), (ii ((x.create d ⟨t0, ks, lp, k, p, a⟩).r1)), .sl 2 gp 0 (x.create d ⟨t0, ks, lp, k, p, a⟩).procs.length false, (ii ((x.create d ⟨t0, ks, lp, k, p, a⟩).sum)), (ii ((x.create d ⟨t0, ks, lp, k, p, a⟩).ev.time)), (.fsl (((x.create d ⟨t0, ks, lp, k, p, a⟩).ev.key).map qby) false), (ii ((x.create d ⟨t0, ks, lp, k, p, a⟩).ev.lp)), (ii ((x.create d ⟨t0, ks, lp, k, p, a⟩).ev.kind)), (ii ((x.create d ⟨t0, ks, lp, k, p, a⟩).ev.proc)), (ii ((x.create d ⟨t0, ks, lp, k, p, a⟩).ev.arg)), .sl 3 (qlc x d gc) 0 (x.create d ⟨t0, ks, lp, k, p, a⟩).out.length false, (ii ((x.create d ⟨t0, ks, lp, k, p, a⟩).n)), .sl 4 gg 0 (x.create d ⟨t0, ks, lp, k, p, a⟩).gone.length false, (bb ((x.create d ⟨t0, ks, lp, k, p, a⟩).over))]] 0, .mp .i64 qe7]) := by
  have hk := qym x.ev.key false x.n h.key
  have hs : (x.out.length + 1) * 64 ≤ 140737488355328 := by have := h.out; omega
  have htl : List.take x.out.length (x.out.map Evt.r) = x.out.map Evt.r := List.take_of_length_le (by simp)
  have hlo : los 7 ([(ii x.r0), (ii x.r1), .sl 2 gp 0 x.procs.length false, (ii x.sum), (ii x.ev.time), (.fsl ((x.ev.key).map qby) false), (ii x.ev.lp), (ii x.ev.kind), (ii x.ev.proc), (ii x.ev.arg), .sl 3 gc 0 x.out.length false, (ii x.n), .sl 4 gg 0 x.gone.length false, (bb x.over)]) = true := by simp only [qw, Nat.reduceLT, qbb, qm, qds, qh, qd, Nat.reduceLT, decide_true, zfc, eq_self]
  rw [qad qlq qle]
  unfold Ex.create qlc Ex.kid
  by_cases ho : w64 (x.ev.time + d) > 1152921504606846976
  · have ho' : IntKind.i64.wrap (x.ev.time + d) > 1152921504606846976 := ho
    simp only [ho, if_true]
    simp only [qdk, hk, ho', qw, qae, qaa, qbn, Nat.reduceLT, Nat.reduceLeDiff, qj, Ev.exec, qb, qe, qc, qaw, qai, Ev.evs, Ev.Opnd.ev, Ev.Env.get, Ev.Env.set, Ev.look, qk, qf, qv, Ev.AV.cells, Ev.AV.uc, qo, Ev.AV.plain, qao, qbh, qi, qq, qaj, Ev.kill, qag, qg, Ev.SObj.lo, qbb, qm, qds, qh, qd, qu, qak, ↓qn, ↓reduceIte, List.length_cons, List.length_nil, List.getElem?_cons_zero, List.getElem?_cons_succ, List.take_succ_cons, List.take_zero, List.drop_succ_cons, List.drop_zero, List.drop_nil, List.cons_append, List.nil_append, List.append_nil, List.set_cons_zero, List.set_cons_succ, List.head?_cons, Nat.reduceAdd, Nat.reduceEqDiff, Nat.reduceLT, Nat.reduceLeDiff, reduceCtorEq, decide_true, zfc, zfa, and_self, ne_eq, zfb, zff, zfd, Nat.add_zero, Nat.le_refl, eq_self]
    done
  · have ho' : ¬ IntKind.i64.wrap (x.ev.time + d) > 1152921504606846976 := ho
    simp only [ho, if_false]
    have hr : ∀ e : Evt, (x.out ++ [e]).map Evt.r = x.out.map Evt.r ++ [e.r] := fun e => by rw [List.map_append]; rfl
    simp only [qdk, hk, ho', hs, htl, hr, qjk, Evt.r, qw, qae, qaa, qbn, Nat.reduceLT, Nat.reduceLeDiff, qj, Ev.exec, qb, qe, qc, qaw, qai, qm4, Ev.evs, Ev.Opnd.ev, Ev.Env.get, Ev.Env.set, Ev.look, qk, qf, qbq, qv, qfm, Ev.AV.cells, Ev.AV.uc, qo, Ev.AV.plain, qao, qbh, qi, qq, qaj, Ev.kill, qag, qg, Ev.SObj.lo, qbb, qm, qds, qh, qd, qu, qak, qbc, qbg, List.replicate_one, List.length_map, ↓qn, ↓reduceIte, List.length_cons, List.length_nil, List.length_append, List.getElem?_cons_zero, List.getElem?_cons_succ, List.take_succ_cons, List.take_zero, zfe, List.drop_succ_cons, List.drop_zero, List.cons_append, List.nil_append, List.set_cons_zero, List.set_cons_succ, List.head?_cons, Nat.reduceAdd, Nat.reduceEqDiff, Nat.reduceMul, Nat.reduceLT, Nat.reduceLeDiff, Nat.reducePow, reduceCtorEq, decide_true, decide_false, zfc, zfa, and_self, ne_eq, zfb, zff, zfd, Nat.add_zero, Nat.lt_add_one, Nat.le_refl, eq_self]
    done
end
set_option maxRecDepth 10000
theorem eq_table : eqBm qe7 qe7 = true := by
  have h : decide (eqBm qe7 qe7 = true) = true := by kernel_rfl
  exact of_decide_eq_true h
def Ex.ownE (x : Ex) (k p a : Int) : Evt := ⟨0, [], x.ev.lp, k, p, a⟩
def Ex.setP (x : Ex) (i : Nat) (q : Pr) : Ex := { x with procs := x.procs.set i q }
def Ex.stopE (x : Ex) (i : Nat) (q : Pr) : Ex := if 0 < q.timer.length then { x with gone := x.gone ++ [q.timer], procs := x.procs.set i { q with timer := [] } } else x
section
variable (a0 a1 a2 : Int) (am : Nat) (x : Ex) (gp gc gg : Nat) (op : OpI)
theorem hold_ev (h : x.Small) : (evL T).call qb2 [.ptr 5 0 0 0, (.agg [(ii op.code), (ii op.a), (ii op.b), (ii op.c)])] [.row 4 [[(ii a0), (ii a1), .sl 2 0 0 am false, (ii a2)]] 0, .row 4 [[(ii 0), (ii 0), .fsl [] false, (ii 0)]] 0, .row 4 ((x.procs).map Pr.r) gp, .row 6 ((x.out).map Evt.r) gc, .row 1 ((x.gone).map qep) gg, .row 14 [[(ii x.r0), (ii x.r1), .sl 2 gp 0 x.procs.length false, (ii x.sum), (ii x.ev.time), (.fsl ((x.ev.key).map qby) false), (ii x.ev.lp), (ii x.ev.kind), (ii x.ev.proc), (ii x.ev.arg), .sl 3 gc 0 x.out.length false, (ii x.n), .sl 4 gg 0 x.gone.length false, (bb x.over)]] 0, .mp .i64 qe7] = some ((ii 1), [.row 4 [[(ii a0), (ii a1), .sl 2 0 0 am false, (ii a2)]] 0, .row 4 [[(ii 0), (ii 0), .fsl [] false, (ii 0)]] 0, .row 4 (((x.create op.a (x.ownE 1 x.ev.proc 0)).procs).map Pr.r) gp, .row 6 (((x.create op.a (x.ownE 1 x.ev.proc 0)).out).map Evt.r) (qlc x op.a gc), .row 1 (((x.create op.a (x.ownE 1 x.ev.proc 0)).gone).map qep) gg, .row 14 [[(ii ((x.create op.a (x.ownE 1 x.ev.proc 0)).r0)), (ii ((x.create op.a (x.ownE 1 x.ev.proc 0)).r1)), .sl 2 gp 0 (x.create op.a (x.ownE 1 x.ev.proc 0)).procs.length false, (ii ((x.create op.a (x.ownE 1 x.ev.proc 0)).sum)), (ii ((x.create op.a (x.ownE 1 x.ev.proc 0)).ev.time)), (.fsl (((x.create op.a (x.ownE 1 x.ev.proc 0)).ev.key).map qby) false), (ii ((x.create op.a (x.ownE 1 x.ev.proc 0)).ev.lp)), (ii ((x.create op.a (x.ownE 1 x.ev.proc 0)).ev.kind)), (ii ((x.create op.a (x.ownE 1 x.ev.proc 0)).ev.proc)), (ii ((x.create op.a (x.ownE 1 x.ev.proc 0)).ev.arg)), .sl 3 (qlc x op.a gc) 0 (x.create op.a (x.ownE 1 x.ev.proc 0)).out.length false, (ii ((x.create op.a (x.ownE 1 x.ev.proc 0)).n)), .sl 4 gg 0 (x.create op.a (x.ownE 1 x.ev.proc 0)).gone.length false, (bb ((x.create op.a (x.ownE 1 x.ev.proc 0)).over))]] 0, .mp .i64 qe7]) := by
  have h1 := q8q a0 a1 a2 am x gp gc gg 1 x.ev.proc 0
  have h2 := qto a0 a1 a2 am x gp gc gg h op.a 0 x.ev.lp 1 x.ev.proc 0 []
  simp only [List.map_nil] at h2
  rw [qad qmu qmo]
  simp only [qfd, h1, h2, Ex.ownE, qw, qae, qaa, qbn, Nat.reduceLT, qj, Ev.exec, qb, qe, qc, qjw, qai, Ev.evs, Ev.Opnd.ev, Ev.Env.get, Ev.Env.set, Ev.look, qk, qf, qv, Ev.AV.cells, qo, Ev.AV.plain, qi, qq, qaj, Ev.kill, qag, qg, Ev.SObj.lo, qbb, qm, qds, qh, qd, qu, qak, ↓qn, ↓reduceIte, List.length_cons, List.length_nil, List.getElem?_cons_zero, List.getElem?_cons_succ, List.take_succ_cons, zfe, List.drop_succ_cons, List.drop_zero, List.head?_cons, Nat.reduceAdd, Nat.reduceEqDiff, Nat.reduceLT, reduceCtorEq, decide_true, zfc, zfa, and_self, ne_eq, zfb, zff, zfd, eq_self]
theorem send_ev (h : x.Small) : (evL T).call qb3 [.ptr 5 0 0 0, (.agg [(ii op.code), (ii op.a), (ii op.b), (ii op.c)])] [.row 4 [[(ii a0), (ii a1), .sl 2 0 0 am false, (ii a2)]] 0, .row 4 [[(ii 0), (ii 0), .fsl [] false, (ii 0)]] 0, .row 4 ((x.procs).map Pr.r) gp, .row 6 ((x.out).map Evt.r) gc, .row 1 ((x.gone).map qep) gg, .row 14 [[(ii x.r0), (ii x.r1), .sl 2 gp 0 x.procs.length false, (ii x.sum), (ii x.ev.time), (.fsl ((x.ev.key).map qby) false), (ii x.ev.lp), (ii x.ev.kind), (ii x.ev.proc), (ii x.ev.arg), .sl 3 gc 0 x.out.length false, (ii x.n), .sl 4 gg 0 x.gone.length false, (bb x.over)]] 0, .mp .i64 qe7] = some ((ii 0), [.row 4 [[(ii a0), (ii a1), .sl 2 0 0 am false, (ii a2)]] 0, .row 4 [[(ii 0), (ii 0), .fsl [] false, (ii 0)]] 0, .row 4 (((x.create op.c ⟨0, [], op.a, 3, 0, op.b⟩).procs).map Pr.r) gp, .row 6 (((x.create op.c ⟨0, [], op.a, 3, 0, op.b⟩).out).map Evt.r) (qlc x op.c gc), .row 1 (((x.create op.c ⟨0, [], op.a, 3, 0, op.b⟩).gone).map qep) gg, .row 14 [[(ii ((x.create op.c ⟨0, [], op.a, 3, 0, op.b⟩).r0)), (ii ((x.create op.c ⟨0, [], op.a, 3, 0, op.b⟩).r1)), .sl 2 gp 0 (x.create op.c ⟨0, [], op.a, 3, 0, op.b⟩).procs.length false, (ii ((x.create op.c ⟨0, [], op.a, 3, 0, op.b⟩).sum)), (ii ((x.create op.c ⟨0, [], op.a, 3, 0, op.b⟩).ev.time)), (.fsl (((x.create op.c ⟨0, [], op.a, 3, 0, op.b⟩).ev.key).map qby) false), (ii ((x.create op.c ⟨0, [], op.a, 3, 0, op.b⟩).ev.lp)), (ii ((x.create op.c ⟨0, [], op.a, 3, 0, op.b⟩).ev.kind)), (ii ((x.create op.c ⟨0, [], op.a, 3, 0, op.b⟩).ev.proc)), (ii ((x.create op.c ⟨0, [], op.a, 3, 0, op.b⟩).ev.arg)), .sl 3 (qlc x op.c gc) 0 (x.create op.c ⟨0, [], op.a, 3, 0, op.b⟩).out.length false, (ii ((x.create op.c ⟨0, [], op.a, 3, 0, op.b⟩).n)), .sl 4 gg 0 (x.create op.c ⟨0, [], op.a, 3, 0, op.b⟩).gone.length false, (bb ((x.create op.c ⟨0, [], op.a, 3, 0, op.b⟩).over))]] 0, .mp .i64 qe7]) := by
  have h2 := qto a0 a1 a2 am x gp gc gg h op.c 0 op.a 3 0 op.b []
  simp only [List.map_nil] at h2
  rw [qad qm3 ql7]
  simp only [qe6, h2, qw, qae, qaa, qbn, Nat.reduceLT, Nat.reduceLeDiff, qj, Ev.exec, qb, qe, qc, qjw, qai, Ev.evs, Ev.Opnd.ev, Ev.Env.get, Ev.Env.set, Ev.look, qk, qf, qv, qfz, Ev.AV.cells, Ev.AV.uc, qo, Ev.AV.plain, qi, qq, qaj, Ev.kill, qag, qg, Ev.SObj.lo, qbb, qm, qds, qh, qd, qu, qak, ↓qn, ↓reduceIte, List.length_cons, List.length_nil, List.take_succ_cons, List.take_zero, zfe, List.drop_succ_cons, List.drop_zero, List.drop_nil, List.cons_append, List.nil_append, List.append_nil, List.head?_cons, Nat.reduceAdd, Nat.reduceEqDiff, Nat.reduceLT, Nat.reduceLeDiff, reduceCtorEq, decide_true, zfc, zfa, and_self, ne_eq, zfb, zff, zfd, Nat.le_refl, eq_self]
theorem end_ev : (evL T).call qb6 [.ptr 5 0 0 0, (.agg [(ii op.code), (ii op.a), (ii op.b), (ii op.c)])] [.row 4 [[(ii a0), (ii a1), .sl 2 0 0 am false, (ii a2)]] 0, .row 4 [[(ii 0), (ii 0), .fsl [] false, (ii 0)]] 0, .row 4 ((x.procs).map Pr.r) gp, .row 6 ((x.out).map Evt.r) gc, .row 1 ((x.gone).map qep) gg, .row 14 [[(ii x.r0), (ii x.r1), .sl 2 gp 0 x.procs.length false, (ii x.sum), (ii x.ev.time), (.fsl ((x.ev.key).map qby) false), (ii x.ev.lp), (ii x.ev.kind), (ii x.ev.proc), (ii x.ev.arg), .sl 3 gc 0 x.out.length false, (ii x.n), .sl 4 gg 0 x.gone.length false, (bb x.over)]] 0, .mp .i64 qe7] = some ((ii 2), [.row 4 [[(ii a0), (ii a1), .sl 2 0 0 am false, (ii a2)]] 0, .row 4 [[(ii 0), (ii 0), .fsl [] false, (ii 0)]] 0, .row 4 ((x.procs).map Pr.r) gp, .row 6 ((x.out).map Evt.r) gc, .row 1 ((x.gone).map qep) gg, .row 14 [[(ii x.r0), (ii x.r1), .sl 2 gp 0 x.procs.length false, (ii x.sum), (ii x.ev.time), (.fsl ((x.ev.key).map qby) false), (ii x.ev.lp), (ii x.ev.kind), (ii x.ev.proc), (ii x.ev.arg), .sl 3 gc 0 x.out.length false, (ii x.n), .sl 4 gg 0 x.gone.length false, (bb x.over)]] 0, .mp .i64 qe7]) := by
  rw [qad qnp qm1]
  simp only [qfs, qw, qae, qaa, qbn, Nat.reduceLT, qj, Ev.exec, qb, qe, qc, qai, Ev.Opnd.ev, Ev.Env.get, Ev.Env.set, Ev.look, qk, Ev.AV.cells, qo, Ev.AV.plain, qi, qq, qaj, Ev.kill, qag, qg, Ev.SObj.lo, qbb, qm, qds, qh, qd, qu, qak, ↓qn, ↓reduceIte, List.length_cons, List.length_nil, List.take_succ_cons, zfe, Nat.reduceAdd, Nat.reduceLT, reduceCtorEq, decide_true, zfc, and_self, ne_eq, zfb, zff, zfd, eq_self]
def Ex.reg (x : Ex) (k : Int) : Int := if k = 0 then x.r0 else x.r1
def Ex.setReg (x : Ex) (k v : Int) : Ex := if k = 0 then { x with r0 := v } else { x with r1 := v }
theorem add_ev (ha : op.a = 0 ∨ op.a = 1) : (evL T).call qb8 [.ptr 5 0 0 0, (.agg [(ii op.code), (ii op.a), (ii op.b), (ii op.c)])] [.row 4 [[(ii a0), (ii a1), .sl 2 0 0 am false, (ii a2)]] 0, .row 4 [[(ii 0), (ii 0), .fsl [] false, (ii 0)]] 0, .row 4 ((x.procs).map Pr.r) gp, .row 6 ((x.out).map Evt.r) gc, .row 1 ((x.gone).map qep) gg, .row 14 [[(ii x.r0), (ii x.r1), .sl 2 gp 0 x.procs.length false, (ii x.sum), (ii x.ev.time), (.fsl ((x.ev.key).map qby) false), (ii x.ev.lp), (ii x.ev.kind), (ii x.ev.proc), (ii x.ev.arg), .sl 3 gc 0 x.out.length false, (ii x.n), .sl 4 gg 0 x.gone.length false, (bb x.over)]] 0, .mp .i64 qe7] = some ((ii 0), [.row 4 [[(ii a0), (ii a1), .sl 2 0 0 am false, (ii a2)]] 0, .row 4 [[(ii 0), (ii 0), .fsl [] false, (ii 0)]] 0, .row 4 (((x.setReg op.a (w64 (x.reg op.a + op.b))).procs).map Pr.r) gp, .row 6 (((x.setReg op.a (w64 (x.reg op.a + op.b))).out).map Evt.r) gc, .row 1 (((x.setReg op.a (w64 (x.reg op.a + op.b))).gone).map qep) gg, .row 14 [[(ii ((x.setReg op.a (w64 (x.reg op.a + op.b))).r0)), (ii ((x.setReg op.a (w64 (x.reg op.a + op.b))).r1)), .sl 2 gp 0 (x.setReg op.a (w64 (x.reg op.a + op.b))).procs.length false, (ii ((x.setReg op.a (w64 (x.reg op.a + op.b))).sum)), (ii ((x.setReg op.a (w64 (x.reg op.a + op.b))).ev.time)), (.fsl (((x.setReg op.a (w64 (x.reg op.a + op.b))).ev.key).map qby) false), (ii ((x.setReg op.a (w64 (x.reg op.a + op.b))).ev.lp)), (ii ((x.setReg op.a (w64 (x.reg op.a + op.b))).ev.kind)), (ii ((x.setReg op.a (w64 (x.reg op.a + op.b))).ev.proc)), (ii ((x.setReg op.a (w64 (x.reg op.a + op.b))).ev.arg)), .sl 3 gc 0 (x.setReg op.a (w64 (x.reg op.a + op.b))).out.length false, (ii ((x.setReg op.a (w64 (x.reg op.a + op.b))).n)), .sl 4 gg 0 (x.setReg op.a (w64 (x.reg op.a + op.b))).gone.length false, (bb ((x.setReg op.a (w64 (x.reg op.a + op.b))).over))]] 0, .mp .i64 qe7]) := by
  rw [qad qni qmv]
  rcases ha with ha | ha
  · simp only [qef, ha, Ex.setReg, Ex.reg, qw, qae, qaa, qbn, Nat.reduceLT, Nat.reduceLeDiff, qj, Ev.exec, qb, qe, qc, qai, Ev.Opnd.ev, Ev.Env.get, Ev.Env.set, Ev.look, qk, qf, qv, Ev.AV.cells, Ev.AV.uc, qo, Ev.AV.plain, qao, qi, qq, qaj, Ev.kill, qag, qg, Ev.SObj.lo, qbb, qm, qds, qh, qd, qu, qak, ↓qn, ↓reduceIte, List.length_cons, List.length_nil, List.getElem?_cons_zero, List.getElem?_cons_succ, List.take_succ_cons, List.take_zero, zfe, List.drop_succ_cons, List.drop_zero, List.cons_append, List.nil_append, List.set_cons_zero, List.set_cons_succ, List.head?_cons, Nat.reduceAdd, Nat.reduceEqDiff, Nat.reduceMul, Nat.reduceLT, Nat.reduceLeDiff, Int.reduceLE, Int.reduceToNat, reduceCtorEq, decide_true, zfc, zfa, and_self, ne_eq, zfb, zff, zfd, Nat.add_zero, eq_self]
  · simp only [qef, ha, Ex.setReg, Ex.reg, qw, qae, qaa, qbn, Nat.reduceLT, Nat.reduceLeDiff, qj, Ev.exec, qb, qe, qc, qai, Ev.Opnd.ev, Ev.Env.get, Ev.Env.set, Ev.look, qk, qf, qv, Ev.AV.cells, Ev.AV.uc, qo, Ev.AV.plain, qao, qi, qq, qaj, Ev.kill, qag, qg, Ev.SObj.lo, qbb, qm, qds, qh, qd, qu, qak, ↓qn, ↓reduceIte, List.length_cons, List.length_nil, List.getElem?_cons_zero, List.getElem?_cons_succ, List.take_succ_cons, List.take_zero, zfe, List.drop_succ_cons, List.drop_zero, List.cons_append, List.nil_append, List.set_cons_zero, List.set_cons_succ, List.head?_cons, Nat.reduceAdd, Nat.reduceEqDiff, Nat.reduceMul, Nat.reduceLT, Nat.reduceLeDiff, Int.reduceLE, Int.reduceToNat, Int.reduceEq, reduceCtorEq, decide_true, zfc, zfa, and_self, ne_eq, zfb, zff, zfd, Nat.add_zero, Nat.lt_add_one, eq_self]
section
variable (i : Nat) (q : Pr) (hi : x.ev.proc = i) (hq : x.procs[i]? = some q)
include hi hq
theorem less_ev (ha : op.a = 0 ∨ op.a = 1) : (evL T).call qb4 [.ptr 5 0 0 0, (.agg [(ii op.code), (ii op.a), (ii op.b), (ii op.c)])] [.row 4 [[(ii a0), (ii a1), .sl 2 0 0 am false, (ii a2)]] 0, .row 4 [[(ii 0), (ii 0), .fsl [] false, (ii 0)]] 0, .row 4 ((x.procs).map Pr.r) gp, .row 6 ((x.out).map Evt.r) gc, .row 1 ((x.gone).map qep) gg, .row 14 [[(ii x.r0), (ii x.r1), .sl 2 gp 0 x.procs.length false, (ii x.sum), (ii x.ev.time), (.fsl ((x.ev.key).map qby) false), (ii x.ev.lp), (ii x.ev.kind), (ii x.ev.proc), (ii x.ev.arg), .sl 3 gc 0 x.out.length false, (ii x.n), .sl 4 gg 0 x.gone.length false, (bb x.over)]] 0, .mp .i64 qe7] = some ((ii 0), [.row 4 [[(ii a0), (ii a1), .sl 2 0 0 am false, (ii a2)]] 0, .row 4 [[(ii 0), (ii 0), .fsl [] false, (ii 0)]] 0, .row 4 (((if x.reg op.a < op.b then x.setP i { q with pc := op.c } else x).procs).map Pr.r) gp, .row 6 (((if x.reg op.a < op.b then x.setP i { q with pc := op.c } else x).out).map Evt.r) gc, .row 1 (((if x.reg op.a < op.b then x.setP i { q with pc := op.c } else x).gone).map qep) gg, .row 14 [[(ii ((if x.reg op.a < op.b then x.setP i { q with pc := op.c } else x).r0)), (ii ((if x.reg op.a < op.b then x.setP i { q with pc := op.c } else x).r1)), .sl 2 gp 0 (if x.reg op.a < op.b then x.setP i { q with pc := op.c } else x).procs.length false, (ii ((if x.reg op.a < op.b then x.setP i { q with pc := op.c } else x).sum)), (ii ((if x.reg op.a < op.b then x.setP i { q with pc := op.c } else x).ev.time)), (.fsl (((if x.reg op.a < op.b then x.setP i { q with pc := op.c } else x).ev.key).map qby) false), (ii ((if x.reg op.a < op.b then x.setP i { q with pc := op.c } else x).ev.lp)), (ii ((if x.reg op.a < op.b then x.setP i { q with pc := op.c } else x).ev.kind)), (ii ((if x.reg op.a < op.b then x.setP i { q with pc := op.c } else x).ev.proc)), (ii ((if x.reg op.a < op.b then x.setP i { q with pc := op.c } else x).ev.arg)), .sl 3 gc 0 (if x.reg op.a < op.b then x.setP i { q with pc := op.c } else x).out.length false, (ii ((if x.reg op.a < op.b then x.setP i { q with pc := op.c } else x).n)), .sl 4 gg 0 (if x.reg op.a < op.b then x.setP i { q with pc := op.c } else x).gone.length false, (bb ((if x.reg op.a < op.b then x.setP i { q with pc := op.c } else x).over))]] 0, .mp .i64 qe7]) := by
  have hp := (List.getElem?_eq_some_iff.1 hq).1
  have h1 := qqw a0 a1 a2 am x gp gc gg i hi hp
  have hset : (x.procs.map Pr.r).set i [(ii q.prog), (ii op.c), (bb q.alive), (.fsl ((q.timer).map qby) false)] = (x.procs.set i { q with pc := op.c }).map Pr.r := by rw [List.map_set]; rfl
  have hl : (x.procs.set i { q with pc := op.c }).length = x.procs.length := by simp
  rw [qad qm0 qmn]
  unfold Ex.reg
  rcases ha with ha | ha
  · by_cases hlt : x.r0 < op.b
    · simp only [qct, ha, hlt, Ex.setP, h1, hl, List.getElem?_map, Option.map_some, hq, Pr.r, qw, qae, qaa, qbn, Nat.reduceLT, Nat.reduceLeDiff, qj, Ev.exec, qb, qe, qc, qjw, qai, Ev.evs, Ev.Opnd.ev, Ev.Env.get, Ev.Env.set, Ev.look, qk, qf, qv, Ev.AV.cells, Ev.AV.uc, qo, Ev.AV.plain, ql, qi, qq, qaj, Ev.kill, qag, qg, Ev.SObj.lo, qbb, qm, qds, qh, qd, qu, qak, ↓qn, ↓reduceIte, List.length_cons, List.length_nil, List.getElem?_cons_zero, List.getElem?_cons_succ, List.take_succ_cons, List.take_zero, zfe, List.drop_succ_cons, List.drop_zero, List.cons_append, List.nil_append, List.set_cons_zero, List.set_cons_succ, List.head?_cons, Nat.reduceAdd, Nat.reduceEqDiff, Nat.reduceMul, Nat.reduceLT, Nat.reduceLeDiff, Int.reduceLE, Int.reduceToNat, reduceCtorEq, decide_true, zfc, zfa, and_self, ne_eq, zfb, zff, zfd, Nat.add_zero, eq_self, hset]
    · simp only [qct, ha, hlt, qw, qae, qaa, qbn, Nat.reduceLT, qj, Ev.exec, qb, qe, qc, qai, Ev.Opnd.ev, Ev.Env.get, Ev.Env.set, Ev.look, qk, qf, qv, Ev.AV.cells, qo, Ev.AV.plain, ql, qi, qq, qaj, Ev.kill, qag, qg, Ev.SObj.lo, qbb, qm, qds, qh, qd, qu, qak, ↓qn, ↓reduceIte, List.length_cons, List.length_nil, List.getElem?_cons_zero, List.getElem?_cons_succ, List.take_succ_cons, zfe, List.drop_succ_cons, List.drop_zero, List.head?_cons, Nat.reduceAdd, Nat.reduceEqDiff, Nat.reduceMul, Nat.reduceLT, Int.reduceLE, Int.reduceToNat, reduceCtorEq, decide_true, decide_false, zfc, zfa, and_self, ne_eq, zfb, zff, zfd, Nat.add_zero, eq_self]
  · have h01 : ¬ (1 : Int) = 0 := by decide
    by_cases hlt : x.r1 < op.b
    · simp only [qct, ha, h01, hlt, Ex.setP, h1, hl, List.getElem?_map, Option.map_some, hq, Pr.r, qw, qae, qaa, qbn, Nat.reduceLT, Nat.reduceLeDiff, qj, Ev.exec, qb, qe, qc, qjw, qai, Ev.evs, Ev.Opnd.ev, Ev.Env.get, Ev.Env.set, Ev.look, qk, qf, qv, Ev.AV.cells, Ev.AV.uc, qo, Ev.AV.plain, ql, qi, qq, qaj, Ev.kill, qag, qg, Ev.SObj.lo, qbb, qm, qds, qh, qd, qu, qak, ↓qn, ↓reduceIte, List.length_cons, List.length_nil, List.getElem?_cons_zero, List.getElem?_cons_succ, List.take_succ_cons, List.take_zero, zfe, List.drop_succ_cons, List.drop_zero, List.cons_append, List.nil_append, List.set_cons_zero, List.set_cons_succ, List.head?_cons, Nat.reduceAdd, Nat.reduceEqDiff, Nat.reduceMul, Nat.reduceLT, Nat.reduceLeDiff, Int.reduceLE, Int.reduceToNat, reduceCtorEq, decide_true, zfc, zfa, and_self, ne_eq, zfb, zff, zfd, Nat.add_zero, Nat.lt_add_one, eq_self, hset]
    · simp only [qct, ha, h01, hlt, qw, qae, qaa, qbn, Nat.reduceLT, qj, Ev.exec, qb, qe, qc, qai, Ev.Opnd.ev, Ev.Env.get, Ev.Env.set, Ev.look, qk, qf, qv, Ev.AV.cells, qo, Ev.AV.plain, ql, qi, qq, qaj, Ev.kill, qag, qg, Ev.SObj.lo, qbb, qm, qds, qh, qd, qu, qak, ↓qn, ↓reduceIte, List.length_cons, List.length_nil, List.getElem?_cons_zero, List.getElem?_cons_succ, List.take_succ_cons, zfe, List.drop_succ_cons, List.drop_zero, List.head?_cons, Nat.reduceAdd, Nat.reduceEqDiff, Nat.reduceMul, Nat.reduceLT, Int.reduceLE, Int.reduceToNat, reduceCtorEq, decide_true, decide_false, zfc, zfa, and_self, ne_eq, zfb, zff, zfd, Nat.add_zero, Nat.lt_add_one, eq_self]
theorem q6k (h : x.Small) : (evL T).call qbt [.ptr 5 0 0 0, (.agg [(ii op.code), (ii op.a), (ii op.b), (ii op.c)])] [.row 4 [[(ii a0), (ii a1), .sl 2 0 0 am false, (ii a2)]] 0, .row 4 [[(ii 0), (ii 0), .fsl [] false, (ii 0)]] 0, .row 4 ((x.procs).map Pr.r) gp, .row 6 ((x.out).map Evt.r) gc, .row 1 ((x.gone).map qep) gg, .row 14 [[(ii x.r0), (ii x.r1), .sl 2 gp 0 x.procs.length false, (ii x.sum), (ii x.ev.time), (.fsl ((x.ev.key).map qby) false), (ii x.ev.lp), (ii x.ev.kind), (ii x.ev.proc), (ii x.ev.arg), .sl 3 gc 0 x.out.length false, (ii x.n), .sl 4 gg 0 x.gone.length false, (bb x.over)]] 0, .mp .i64 qe7] = some ((ii 0), [.row 4 [[(ii a0), (ii a1), .sl 2 0 0 am false, (ii a2)]] 0, .row 4 [[(ii 0), (ii 0), .fsl [] false, (ii 0)]] 0, .row 4 (((x.stopE i q).procs).map Pr.r) gp, .row 6 (((x.stopE i q).out).map Evt.r) gc, .row 1 (((x.stopE i q).gone).map qep) (if 0 < q.timer.length then gg + 1 else gg), .row 14 [[(ii ((x.stopE i q).r0)), (ii ((x.stopE i q).r1)), .sl 2 gp 0 (x.stopE i q).procs.length false, (ii ((x.stopE i q).sum)), (ii ((x.stopE i q).ev.time)), (.fsl (((x.stopE i q).ev.key).map qby) false), (ii ((x.stopE i q).ev.lp)), (ii ((x.stopE i q).ev.kind)), (ii ((x.stopE i q).ev.proc)), (ii ((x.stopE i q).ev.arg)), .sl 3 gc 0 (x.stopE i q).out.length false, (ii ((x.stopE i q).n)), .sl 4 (if 0 < q.timer.length then gg + 1 else gg) 0 (x.stopE i q).gone.length false, (bb ((x.stopE i q).over))]] 0, .mp .i64 qe7]) := by
  have hp := (List.getElem?_eq_some_iff.1 hq).1
  have h1 := qqw a0 a1 a2 am x gp gc gg i hi hp
  have hset : (x.procs.map Pr.r).set i [(ii q.prog), (ii q.pc), (bb q.alive), .fsl [] false] = (x.procs.set i { q with timer := [] }).map Pr.r := by rw [List.map_set]; rfl
  have hl : (x.procs.set i { q with timer := [] }).length = x.procs.length := by simp
  have hs : (x.gone.length + 1) * 24 ≤ 140737488355328 := by have := h.gone; omega
  have htl : List.take x.gone.length (x.gone.map qep) = x.gone.map qep := List.take_of_length_le (by simp)
  have hr : ∀ e : List Int, (x.gone ++ [e]).map qep = x.gone.map qep ++ [qep e] := fun e => by rw [List.map_append]; rfl
  rw [qad qmx ql8]
  unfold Ex.stopE
  by_cases ht : 0 < q.timer.length
  · have ht' : (q.timer.length : Int) > 0 := by omega
    simp only [qd5, ht, ht', h1, hl, hs, htl, hr, qjk, qep, List.getElem?_map, Option.map_some, hq, Pr.r, qw, qae, qaa, qbn, Nat.reduceLT, Nat.reduceLeDiff, qj, Ev.exec, qb, qe, qc, qjw, qai, qm4, Ev.evs, Ev.Opnd.ev, Ev.Env.get, Ev.Env.set, Ev.look, qk, qf, qbq, qv, qfm, Ev.AV.cells, Ev.AV.uc, qo, Ev.AV.plain, qbh, qi, qq, qaj, Ev.kill, qag, qg, Ev.SObj.lo, qbb, qm, qds, qh, qd, qu, qak, qbc, qbg, List.replicate_one, List.length_map, ↓qn, ↓reduceIte, List.length_cons, List.length_nil, List.length_append, List.getElem?_cons_zero, List.getElem?_cons_succ, List.take_succ_cons, List.take_zero, zfe, List.drop_succ_cons, List.drop_zero, List.drop_nil, List.cons_append, List.nil_append, List.append_nil, List.set_cons_zero, List.set_cons_succ, List.head?_cons, Nat.reduceAdd, Nat.reduceEqDiff, Nat.reduceMul, Nat.reduceLT, Nat.reduceLeDiff, Nat.reducePow, reduceCtorEq, decide_true, zfc, zfa, and_self, ne_eq, zfb, zff, zfd, Nat.lt_add_one, Nat.le_refl, eq_self, hset]
  · have ht' : ¬ (q.timer.length : Int) > 0 := by omega
    simp only [qd5, ht, ht', h1, List.getElem?_map, Option.map_some, hq, Pr.r, qw, qae, qaa, qbn, Nat.reduceLT, qj, Ev.exec, qb, qe, qc, qjw, qai, Ev.evs, Ev.Opnd.ev, Ev.Env.get, Ev.Env.set, Ev.look, qk, qf, qv, Ev.AV.cells, qo, Ev.AV.plain, qbh, qi, qq, qaj, Ev.kill, qag, qg, Ev.SObj.lo, qbb, qm, qds, qh, qd, qu, qak, List.length_map, ↓qn, ↓reduceIte, List.length_cons, List.length_nil, List.getElem?_cons_zero, List.getElem?_cons_succ, List.take_succ_cons, zfe, List.drop_succ_cons, List.drop_zero, List.head?_cons, Nat.reduceAdd, Nat.reduceLT, reduceCtorEq, decide_true, decide_false, zfc, zfa, and_self, ne_eq, zfb, zff, zfd, eq_self]
def Ex.spawnE (x : Ex) (op : OpI) : Ex := if x.procs.length < 8 then ({ x with procs := x.procs ++ [⟨op.a, 0, true, []⟩] } : Ex).create op.b (x.ownE 1 x.procs.length 0) else x
omit hi hq in
theorem spawn_ev (h : x.Small) : ∃ gp' gc', (evL T).call qbz [.ptr 5 0 0 0, (.agg [(ii op.code), (ii op.a), (ii op.b), (ii op.c)])] [.row 4 [[(ii a0), (ii a1), .sl 2 0 0 am false, (ii a2)]] 0, .row 4 [[(ii 0), (ii 0), .fsl [] false, (ii 0)]] 0, .row 4 ((x.procs).map Pr.r) gp, .row 6 ((x.out).map Evt.r) gc, .row 1 ((x.gone).map qep) gg, .row 14 [[(ii x.r0), (ii x.r1), .sl 2 gp 0 x.procs.length false, (ii x.sum), (ii x.ev.time), (.fsl ((x.ev.key).map qby) false), (ii x.ev.lp), (ii x.ev.kind), (ii x.ev.proc), (ii x.ev.arg), .sl 3 gc 0 x.out.length false, (ii x.n), .sl 4 gg 0 x.gone.length false, (bb x.over)]] 0, .mp .i64 qe7] = some ((ii 0), [.row 4 [[(ii a0), (ii a1), .sl 2 0 0 am false, (ii a2)]] 0, .row 4 [[(ii 0), (ii 0), .fsl [] false, (ii 0)]] 0, .row 4 (((x.spawnE op).procs).map Pr.r) gp', .row 6 (((x.spawnE op).out).map Evt.r) gc', .row 1 (((x.spawnE op).gone).map qep) gg, .row 14 [[(ii ((x.spawnE op).r0)), (ii ((x.spawnE op).r1)), .sl 2 gp' 0 (x.spawnE op).procs.length false, (ii ((x.spawnE op).sum)), (ii ((x.spawnE op).ev.time)), (.fsl (((x.spawnE op).ev.key).map qby) false), (ii ((x.spawnE op).ev.lp)), (ii ((x.spawnE op).ev.kind)), (ii ((x.spawnE op).ev.proc)), (ii ((x.spawnE op).ev.arg)), .sl 3 gc' 0 (x.spawnE op).out.length false, (ii ((x.spawnE op).n)), .sl 4 gg 0 (x.spawnE op).gone.length false, (bb ((x.spawnE op).over))]] 0, .mp .i64 qe7]) := by
  rw [qad ql5 qlm]
  unfold Ex.spawnE
  by_cases h8 : x.procs.length < 8
  · have h8' : (x.procs.length : Int) < 8 := by omega
    have hs : (x.procs.length + 1) * 48 ≤ 140737488355328 := by omega
    have htl : List.take x.procs.length (x.procs.map Pr.r) = x.procs.map Pr.r := List.take_of_length_le (by simp)
    have hr : ∀ e : Pr, (x.procs ++ [e]).map Pr.r = x.procs.map Pr.r ++ [e.r] := fun e => by rw [List.map_append]; rfl
    have hl : ∀ e : Pr, (x.procs ++ [e]).length = x.procs.length + 1 := fun e => by simp
    have hsm : ({ x with procs := x.procs ++ [⟨op.a, 0, true, []⟩] } : Ex).Small := ⟨by simp; omega, h.out, h.gone, h.key⟩
    have h1 := q8q a0 a1 a2 am { x with procs := x.procs ++ [⟨op.a, 0, true, []⟩] } (gp + 1) gc gg 1 x.procs.length 0
    have h2 := qto a0 a1 a2 am { x with procs := x.procs ++ [⟨op.a, 0, true, []⟩] } (gp + 1) gc gg hsm op.b 0 x.ev.lp 1 x.procs.length 0 []
    refine ⟨gp + 1, qlc { x with procs := x.procs ++ [⟨op.a, 0, true, []⟩] } op.b gc, ?_⟩
    simp only [hr, hl, Pr.r, List.map_nil] at h1 h2
    simp only [qdp, h8, h8', h1, h2, hs, htl, Ex.ownE, qw, qae, qaa, qbn, Nat.reduceLT, Nat.reduceLeDiff, qj, Ev.exec, qb, qe, qc, qjw, qai, qm4, Ev.evs, Ev.Opnd.ev, Ev.Env.get, Ev.Env.set, Ev.look, qk, qf, qbq, qv, qfz, qfm, Ev.AV.cells, Ev.AV.uc, qo, Ev.AV.plain, ql, qi, qq, qaj, Ev.kill, qag, qg, Ev.SObj.lo, qbb, qm, qds, qh, qd, qu, qak, qbc, qbg, List.replicate_one, List.length_map, ↓qn, ↓reduceIte, List.length_cons, List.length_nil, List.getElem?_cons_zero, List.getElem?_cons_succ, List.take_succ_cons, List.take_zero, zfe, List.drop_succ_cons, List.drop_zero, List.cons_append, List.nil_append, List.set_cons_zero, List.set_cons_succ, List.head?_cons, Nat.reduceAdd, Nat.reduceEqDiff, Nat.reduceMul, Nat.reduceLT, Nat.reduceLeDiff, Nat.reducePow, reduceCtorEq, decide_true, zfc, zfa, and_self, ne_eq, zfb, zff, zfd, Nat.add_zero, Nat.lt_add_one, Nat.le_refl, eq_self]
  · have h8' : ¬ (x.procs.length : Int) < 8 := by omega
    refine ⟨gp, gc, ?_⟩
    simp only [qdp, h8, h8', qw, qae, qaa, qbn, Nat.reduceLT, qj, Ev.exec, qb, qe, qc, qai, Ev.Opnd.ev, Ev.Env.get, Ev.Env.set, Ev.look, qk, qf, qv, Ev.AV.cells, qo, Ev.AV.plain, ql, qi, qq, qaj, Ev.kill, qag, qg, Ev.SObj.lo, qbb, qm, qds, qh, qd, qu, qak, ↓qn, ↓reduceIte, List.length_cons, List.length_nil, List.getElem?_cons_zero, List.getElem?_cons_succ, List.take_succ_cons, zfe, List.drop_succ_cons, List.drop_zero, List.head?_cons, Nat.reduceAdd, Nat.reduceLT, reduceCtorEq, decide_true, decide_false, zfc, zfa, and_self, ne_eq, zfb, zff, zfd, Nat.add_zero, eq_self]
def Ex.timerE (x : Ex) (i : Nat) (q : Pr) (op : OpI) : Ex := ((x.stopE i q).create op.a (x.ownE 2 x.ev.proc op.b)).setP i { q with timer := (x.stopE i q).kid }
theorem timer_ev (h : x.Small) (hg : x.gone.length < 1000) : ∃ gc' gg', (evL T).call qbx [.ptr 5 0 0 0, (.agg [(ii op.code), (ii op.a), (ii op.b), (ii op.c)])] [.row 4 [[(ii a0), (ii a1), .sl 2 0 0 am false, (ii a2)]] 0, .row 4 [[(ii 0), (ii 0), .fsl [] false, (ii 0)]] 0, .row 4 ((x.procs).map Pr.r) gp, .row 6 ((x.out).map Evt.r) gc, .row 1 ((x.gone).map qep) gg, .row 14 [[(ii x.r0), (ii x.r1), .sl 2 gp 0 x.procs.length false, (ii x.sum), (ii x.ev.time), (.fsl ((x.ev.key).map qby) false), (ii x.ev.lp), (ii x.ev.kind), (ii x.ev.proc), (ii x.ev.arg), .sl 3 gc 0 x.out.length false, (ii x.n), .sl 4 gg 0 x.gone.length false, (bb x.over)]] 0, .mp .i64 qe7] = some ((ii 0), [.row 4 [[(ii a0), (ii a1), .sl 2 0 0 am false, (ii a2)]] 0, .row 4 [[(ii 0), (ii 0), .fsl [] false, (ii 0)]] 0, .row 4 (((x.timerE i q op).procs).map Pr.r) gp, .row 6 (((x.timerE i q op).out).map Evt.r) gc', .row 1 (((x.timerE i q op).gone).map qep) gg', .row 14 [[(ii ((x.timerE i q op).r0)), (ii ((x.timerE i q op).r1)), .sl 2 gp 0 (x.timerE i q op).procs.length false, (ii ((x.timerE i q op).sum)), (ii ((x.timerE i q op).ev.time)), (.fsl (((x.timerE i q op).ev.key).map qby) false), (ii ((x.timerE i q op).ev.lp)), (ii ((x.timerE i q op).ev.kind)), (ii ((x.timerE i q op).ev.proc)), (ii ((x.timerE i q op).ev.arg)), .sl 3 gc' 0 (x.timerE i q op).out.length false, (ii ((x.timerE i q op).n)), .sl 4 gg' 0 (x.timerE i q op).gone.length false, (bb ((x.timerE i q op).over))]] 0, .mp .i64 qe7]) := by
  have h0 := q6k a0 a1 a2 am x gp gc gg op i q hi hq h
  have hev : (x.stopE i q).ev = x.ev := by unfold Ex.stopE; split <;> rfl
  have hpl : (x.stopE i q).procs.length = x.procs.length := by unfold Ex.stopE; split <;> simp
  have hp := (List.getElem?_eq_some_iff.1 hq).1
  have hsm : (x.stopE i q).Small := ⟨by rw [hpl]; exact h.procs, by unfold Ex.stopE; split <;> exact h.out, by
    unfold Ex.stopE; split
    · simp only [List.length_append, List.length_cons, List.length_nil]; omega
    · exact h.gone, by rw [hev]; exact h.key⟩
  generalize (if 0 < q.timer.length then gg + 1 else gg) = gg' at h0
  have hset2 : ∀ k : List Int, (x.stopE i q).procs.set i { q with timer := k } = x.procs.set i { q with timer := k } := fun k => by
    unfold Ex.stopE; split <;> simp
  have hq2 : ∃ q2, (x.stopE i q).procs[i]? = some q2 ∧ q2.prog = q.prog ∧ q2.pc = q.pc ∧ q2.alive = q.alive := by
    by_cases ht : 0 < q.timer.length
    · simp only [Ex.stopE, ht, if_true]
      exact ⟨{ q with timer := [] }, by rw [List.getElem?_set_self hp], rfl, rfl, rfl⟩
    · simp only [Ex.stopE, ht, if_false]
      exact ⟨q, hq, rfl, rfl, rfl⟩
  unfold Ex.timerE
  generalize x.stopE i q = y at h0 hev hpl hsm hset2 hq2
  obtain ⟨q2, hq2, e1, e2, e3⟩ := hq2
  have hi2 : y.ev.proc = i := by rw [hev]; exact hi
  have h1 := qqw a0 a1 a2 am y gp gc gg' i hi2 (by omega)
  have h2 := q8q a0 a1 a2 am y gp gc gg' 2 y.ev.proc op.b
  have h3 := qto a0 a1 a2 am y gp gc gg' hsm op.a 0 y.ev.lp 2 y.ev.proc op.b []
  refine ⟨qlc y op.a gc, gg', ?_⟩
  have hcp : (y.create op.a ⟨0, [], y.ev.lp, 2, y.ev.proc, op.b⟩).procs = y.procs := rfl
  simp only [Ex.ownE, Ex.setP, ← hev] at h0 ⊢
  generalize qlc y op.a gc = gc' at h3
  generalize y.create op.a ⟨0, [], y.ev.lp, 2, y.ev.proc, op.b⟩ = z at h3 hcp
  have hset : (y.procs.map Pr.r).set i [(ii q2.prog), (ii q2.pc), (bb q2.alive), (.fsl ((y.kid).map qby) false)] = (y.procs.set i { q with timer := y.kid }).map Pr.r := by rw [List.map_set, e1, e2, e3]; rfl
  have hl : (y.procs.set i { q with timer := y.kid }).length = y.procs.length := by simp
  rw [qad qmi qls]
  simp only [List.map_nil, hcp] at h3
  simp only [qet, h0, h1, h2, h3, hcp, hl, List.getElem?_map, Option.map_some, hq2, Pr.r, eq_procs, eq_evts, eq_keys, q02, eq_table, qw, qae, qaa, qbn, Nat.reduceLT, qj, Ev.exec, qb, qe, qc, qjw, Ev.item_R, qpx, Ev.SObj.eqB, q2o, qzx, qsu, qqf, q06, q4l, q0u, Ev.eqB_sl, qai, Ev.evs, Ev.Opnd.ev, Ev.Env.get, Ev.Env.set, Ev.look, qk, qf, qv, Ev.AV.cells, Ev.AV.uc, qo, Ev.AV.plain, qi, qq, qaj, Ev.kill, qag, qg, Ev.SObj.lo, qbb, qm, qds, qh, qd, qu, qak, ↓qn, ↓reduceIte, List.length_cons, List.length_nil, List.getElem?_cons_zero, List.getElem?_cons_succ, List.take_succ_cons, List.take_zero, zfe, List.drop_succ_cons, List.drop_zero, List.drop_nil, List.cons_append, List.nil_append, List.append_nil, List.set_cons_zero, List.set_cons_succ, List.head?_cons, Nat.reduceAdd, Nat.reduceEqDiff, Nat.reduceLT, reduceCtorEq, decide_true, zfc, zfa, and_self, ne_eq, zfb, zff, zfd, Nat.le_refl, eq_self, beq_self_eq_true, hset]
end
end
set_option maxRecDepth 10000
def qc4 (x : Ex) (i : Nat) (q : Pr) (op : OpI) : Ex × Int :=
  if op.code = 1 then (x.create op.a (x.ownE 1 x.ev.proc 0), 1)
  else if op.code = 2 then (x.create op.c ⟨0, [], op.a, 3, 0, op.b⟩, 0)
  else if op.code = 3 then (x.timerE i q op, 0)
  else if op.code = 4 then (x.stopE i q, 0)
  else if op.code = 5 then (x.spawnE op, 0)
  else if op.code = 6 then (x.setReg op.a (w64 (x.reg op.a + op.b)), 0)
  else if op.code = 7 then (if x.reg op.a < op.b then x.setP i { q with pc := op.c } else x, 0)
  else (x, 2)
structure OpOk' (op : OpI) : Prop where
  code : 1 ≤ op.code ∧ op.code ≤ 8
  reg : op.code = 6 ∨ op.code = 7 → op.a = 0 ∨ op.a = 1
  to : op.code = 7 → 0 ≤ op.c ∧ op.c ≤ 1000000
section
variable (a0 a1 a2 : Int) (am : Nat) (x : Ex) (gp gc gg : Nat) (op : OpI) (i : Nat) (q : Pr)
theorem step_ev (h : x.Small) (hg : x.gone.length < 1000) (hi : x.ev.proc = i) (hq : x.procs[i]? = some q) (ho : OpOk' op) :
    ∃ k gp' gc' gg', getL op.code qe7 = some (.fn (.func k) [] []) ∧ (evL T).call k [.ptr 5 0 0 0, (.agg [(ii op.code), (ii op.a), (ii op.b), (ii op.c)])] [.row 4 [[(ii a0), (ii a1), .sl 2 0 0 am false, (ii a2)]] 0, .row 4 [[(ii 0), (ii 0), .fsl [] false, (ii 0)]] 0, .row 4 ((x.procs).map Pr.r) gp, .row 6 ((x.out).map Evt.r) gc, .row 1 ((x.gone).map qep) gg, .row 14 [[(ii x.r0), (ii x.r1), .sl 2 gp 0 x.procs.length false, (ii x.sum), (ii x.ev.time), (.fsl ((x.ev.key).map qby) false), (ii x.ev.lp), (ii x.ev.kind), (ii x.ev.proc), (ii x.ev.arg), .sl 3 gc 0 x.out.length false, (ii x.n), .sl 4 gg 0 x.gone.length false, (bb x.over)]] 0, .mp .i64 qe7] = some ((ii ((qc4 x i q op).2)), [.row 4 [[(ii a0), (ii a1), .sl 2 0 0 am false, (ii a2)]] 0, .row 4 [[(ii 0), (ii 0), .fsl [] false, (ii 0)]] 0, .row 4 (((qc4 x i q op).1.procs).map Pr.r) gp', .row 6 (((qc4 x i q op).1.out).map Evt.r) gc', .row 1 (((qc4 x i q op).1.gone).map qep) gg', .row 14 [[(ii ((qc4 x i q op).1.r0)), (ii ((qc4 x i q op).1.r1)), .sl 2 gp' 0 (qc4 x i q op).1.procs.length false, (ii ((qc4 x i q op).1.sum)), (ii ((qc4 x i q op).1.ev.time)), (.fsl (((qc4 x i q op).1.ev.key).map qby) false), (ii ((qc4 x i q op).1.ev.lp)), (ii ((qc4 x i q op).1.ev.kind)), (ii ((qc4 x i q op).1.ev.proc)), (ii ((qc4 x i q op).1.ev.arg)), .sl 3 gc' 0 (qc4 x i q op).1.out.length false, (ii ((qc4 x i q op).1.n)), .sl 4 gg' 0 (qc4 x i q op).1.gone.length false, (bb ((qc4 x i q op).1.over))]] 0, .mp .i64 qe7]) := by
  have hc : op.code = 1 ∨ op.code = 2 ∨ op.code = 3 ∨ op.code = 4 ∨ op.code = 5 ∨ op.code = 6 ∨ op.code = 7 ∨ op.code = 8 := by have := ho.code; omega
  have ne : ∀ m n : Int, decide (m = n) = false → ¬ m = n := fun m n h => of_decide_eq_false h
  rcases hc with hc | hc | hc | hc | hc | hc | hc | hc
  · refine ⟨qb2, gp, qlc x op.a gc, gg, by rw [hc]; rfl, ?_⟩
    have e : qc4 x i q op = (x.create op.a (x.ownE 1 x.ev.proc 0), 1) := by simp [qc4, hc]
    rw [e]; exact hold_ev a0 a1 a2 am x gp gc gg op h
  · refine ⟨qb3, gp, qlc x op.c gc, gg, by rw [hc]; rfl, ?_⟩
    have e : qc4 x i q op = (x.create op.c ⟨0, [], op.a, 3, 0, op.b⟩, 0) := by simp [qc4, hc]
    rw [e]; exact send_ev a0 a1 a2 am x gp gc gg op h
  · obtain ⟨gc', gg', hz⟩ := timer_ev a0 a1 a2 am x gp gc gg op i q hi hq h hg
    refine ⟨qbx, gp, gc', gg', by rw [hc]; rfl, ?_⟩
    have e : qc4 x i q op = (x.timerE i q op, 0) := by simp [qc4, hc]
    rw [e]; exact hz
  · refine ⟨qbt, gp, gc, (if 0 < q.timer.length then gg + 1 else gg), by rw [hc]; rfl, ?_⟩
    have e : qc4 x i q op = (x.stopE i q, 0) := by simp [qc4, hc]
    rw [e]; exact q6k a0 a1 a2 am x gp gc gg op i q hi hq h
  · obtain ⟨gp', gc', hz⟩ := spawn_ev a0 a1 a2 am x gp gc gg op h
    refine ⟨qbz, gp', gc', gg, by rw [hc]; rfl, ?_⟩
    have e : qc4 x i q op = (x.spawnE op, 0) := by simp [qc4, hc]
    rw [e]; exact hz
  · refine ⟨qb8, gp, gc, gg, by rw [hc]; rfl, ?_⟩
    have e : qc4 x i q op = (x.setReg op.a (w64 (x.reg op.a + op.b)), 0) := by simp [qc4, hc]
    rw [e]; exact add_ev a0 a1 a2 am x gp gc gg op (ho.reg (.inl hc))
  · refine ⟨qb4, gp, gc, gg, by rw [hc]; rfl, ?_⟩
    have e : qc4 x i q op = (if x.reg op.a < op.b then x.setP i { q with pc := op.c } else x, 0) := by simp [qc4, hc]
    rw [e]; exact less_ev a0 a1 a2 am x gp gc gg op i q hi hq (ho.reg (.inr hc))
  · refine ⟨qb6, gp, gc, gg, by rw [hc]; rfl, ?_⟩
    have e : qc4 x i q op = (x, 2) := by simp [qc4, hc]
    rw [e]; exact end_ev a0 a1 a2 am x gp gc gg op
end
def qk2 (x : Ex) (i : Nat) : Ex := match x.procs[i]? with
  | some q => x.setP i { q with alive := false }
  | none => x
def qkg (p : List OpI) (i : Nat) : Nat → Ex → Ex
  | 0, x => qk2 x i
  | n + 1, x => match x.procs[i]? with
    | none => x
    | some q => match p[q.pc.toNat]? with
      | none => qk2 x i
      | some op =>
        if (qc4 (x.setP i { q with pc := w64 (q.pc + 1) }) i { q with pc := w64 (q.pc + 1) } op).2 = 1 then (qc4 (x.setP i { q with pc := w64 (q.pc + 1) }) i { q with pc := w64 (q.pc + 1) } op).1
        else if (qc4 (x.setP i { q with pc := w64 (q.pc + 1) }) i { q with pc := w64 (q.pc + 1) } op).2 = 2 then qk2 (qc4 (x.setP i { q with pc := w64 (q.pc + 1) }) i { q with pc := w64 (q.pc + 1) } op).1 i
        else qkg p i n (qc4 (x.setP i { q with pc := w64 (q.pc + 1) }) i { q with pc := w64 (q.pc + 1) } op).1
structure ActInv (e : Evt) (i n : Nat) (x : Ex) : Prop where
  ev : x.ev = e
  has : ∃ q, x.procs[i]? = some q ∧ 0 ≤ q.pc ∧ q.pc ≤ 1000000
  procs : x.procs.length ≤ 20
  out : x.out.length ≤ n
  gone : x.gone.length ≤ n
theorem ActInv.small {e : Evt} {i n : Nat} {x : Ex} (h : ActInv e i n x) (hn : n ≤ 100) (hk : e.key.length ≤ 100000) : x.Small := ⟨by have := h.procs; omega, by have := h.out; omega, by have := h.gone; omega, by rw [h.ev]; exact hk⟩
theorem q49 (x : Ex) (d : Int) (e : Evt) : (x.create d e).out.length ≤ x.out.length + 1 := by
  unfold Ex.create; simp only; split
  · omega
  · simp
theorem ActInv.step {e : Evt} {i n : Nat} {x : Ex} (h : ActInv e i n x) {q : Pr} (hq : x.procs[i]? = some q) (hpc : 0 ≤ q.pc ∧ q.pc ≤ 1000000) {op : OpI} (ho : OpOk' op) : ActInv e i (n + 1) (qc4 x i q op).1 := by
  have hlt := (List.getElem?_eq_some_iff.1 hq).1
  have hp := h.procs
  have h1 := h.out
  have h2 := h.gone
  have stop : ActInv e i (n + 1) (x.stopE i q) ∧ (x.stopE i q).out = x.out := by
    unfold Ex.stopE; split
    · exact ⟨⟨h.ev, ⟨{ q with timer := [] }, by simp only; rw [List.getElem?_set_self hlt], hpc⟩, by simpa using hp, by simp only; omega, by simp; omega⟩, rfl⟩
    · exact ⟨⟨h.ev, ⟨q, hq, hpc⟩, hp, by omega, by omega⟩, rfl⟩
  have crt : ∀ (y : Ex) (d : Int) (ev : Evt), y.ev = e → (∃ q, y.procs[i]? = some q ∧ 0 ≤ q.pc ∧ q.pc ≤ 1000000) → y.procs.length ≤ 20 → y.out.length ≤ n → y.gone.length ≤ n + 1 → ActInv e i (n + 1) (y.create d ev) := fun y d ev k1 k2 k3 k4 k5 =>
    ⟨k1, k2, k3, by have := q49 y d ev; omega, k5⟩
  unfold qc4
  split
  · exact crt x _ _ h.ev ⟨q, hq, hpc⟩ hp h1 (by omega)
  split
  · exact crt x _ _ h.ev ⟨q, hq, hpc⟩ hp h1 (by omega)
  split
  · obtain ⟨s1, s2⟩ := stop
    have hc := crt (x.stopE i q) op.a (x.ownE 2 x.ev.proc op.b) s1.ev s1.has s1.procs (by rw [s2]; exact h1) s1.gone
    have hl : i < ((x.stopE i q).create op.a (x.ownE 2 x.ev.proc op.b)).procs.length := by
      obtain ⟨q', hq', _⟩ := hc.has
      exact (List.getElem?_eq_some_iff.1 hq').1
    exact ⟨hc.ev, ⟨{ q with timer := (x.stopE i q).kid }, by simp only [Ex.timerE, Ex.setP]; rw [List.getElem?_set_self hl], hpc⟩, by simp only [Ex.timerE, Ex.setP, List.length_set]; exact hc.procs, hc.out, hc.gone⟩
  split
  · exact stop.1
  split
  · unfold Ex.spawnE
    split
    · refine crt _ _ _ h.ev ⟨q, by simp only; rw [List.getElem?_append_left hlt]; exact hq, hpc⟩ (by simp; omega) h1 (by simp only; omega)
    · exact ⟨h.ev, ⟨q, hq, hpc⟩, hp, by first | omega | (simp only; omega), by first | omega | (simp only; omega)⟩
  split
  · unfold Ex.setReg
    split <;> exact ⟨h.ev, ⟨q, hq, hpc⟩, hp, by first | omega | (simp only; omega), by first | omega | (simp only; omega)⟩
  split
  · rename_i h7
    simp only
    split
    · exact ⟨h.ev, ⟨{ q with pc := op.c }, by simp only [Ex.setP]; rw [List.getElem?_set_self hlt], ho.to h7⟩, by simp only [Ex.setP, List.length_set]; exact hp, by simp only [Ex.setP]; omega, by simp only [Ex.setP]; omega⟩
    · exact ⟨h.ev, ⟨q, hq, hpc⟩, hp, by first | omega | (simp only; omega), by first | omega | (simp only; omega)⟩
  · exact ⟨h.ev, ⟨q, hq, hpc⟩, hp, by first | omega | (simp only; omega), by first | omega | (simp only; omega)⟩
set_option maxRecDepth 10000
theorem ActInv.pc {e : Evt} {i n : Nat} {x : Ex} (h : ActInv e i n x) {q : Pr} (hq : x.procs[i]? = some q) {pc : Int} (hp : 0 ≤ pc ∧ pc ≤ 1000000) (al : Bool) : ActInv e i n (x.setP i { q with pc := pc, alive := al }) := by
  have hlt := (List.getElem?_eq_some_iff.1 hq).1
  exact ⟨h.ev, ⟨{ q with pc := pc, alive := al }, by simp only [Ex.setP]; rw [List.getElem?_set_self hlt], hp⟩, by simp only [Ex.setP, List.length_set]; exact h.procs, h.out, h.gone⟩
section
variable (a0 a1 a2 : Int) (am : Nat) (e0 : Evt) (i : Nat) (p : List OpI) (cl : Bool)
def ActEnd (a0 a1 a2 : Int) (am : Nat) (e0 : Evt) (i : Nat) (F : Ex) (y : CExit × Env × qr) : Prop :=
  ∃ z gp gc gg, y.2.2 = [.row 4 [[(ii a0), (ii a1), .sl 2 0 0 am false, (ii a2)]] 0, .row 4 [[(ii 0), (ii 0), .fsl [] false, (ii 0)]] 0, .row 4 ((z.procs).map Pr.r) gp, .row 6 ((z.out).map Evt.r) gc, .row 1 ((z.gone).map qep) gg, .row 14 [[(ii z.r0), (ii z.r1), .sl 2 gp 0 z.procs.length false, (ii z.sum), (ii z.ev.time), (.fsl ((z.ev.key).map qby) false), (ii z.ev.lp), (ii z.ev.kind), (ii z.ev.proc), (ii z.ev.arg), .sl 3 gc 0 z.out.length false, (ii z.n), .sl 4 gg 0 z.gone.length false, (bb z.over)]] 0, .mp .i64 qe7] ∧ y.2.1.marks = [] ∧ ((y.1 = .ret ∧ z = F ∧ ActInv e0 i 16 z) ∨ (y.1 = .exit 0 ∧ Ev.look y.2.1.vars 0 = some (.ptr 5 0 0 0) ∧ qk2 z i = F ∧ ActInv e0 i 16 z))
theorem act_loop (hk : e0.key.length ≤ 100000) (hpr : e0.proc = i) (hpl : p.length ≤ 1000) (hok : ∀ op ∈ p, OpOk' op) (x : Ex) (gp gc gg : Nat) (h0 : ActInv e0 i 0 x) :
    ∃ y, itB (exec (evL T) itL none qbl) (qs [0, 1, 4, 7] true 7) ⟨[(0, .ptr 5 0 0 0), (1, (.fsl ((p).map OpI.r) cl)), (4, .mp 6), (7, (ii 0))], []⟩ [.row 4 [[(ii a0), (ii a1), .sl 2 0 0 am false, (ii a2)]] 0, .row 4 [[(ii 0), (ii 0), .fsl [] false, (ii 0)]] 0, .row 4 ((x.procs).map Pr.r) gp, .row 6 ((x.out).map Evt.r) gc, .row 1 ((x.gone).map qep) gg, .row 14 [[(ii x.r0), (ii x.r1), .sl 2 gp 0 x.procs.length false, (ii x.sum), (ii x.ev.time), (.fsl ((x.ev.key).map qby) false), (ii x.ev.lp), (ii x.ev.kind), (ii x.ev.proc), (ii x.ev.arg), .sl 3 gc 0 x.out.length false, (ii x.n), .sl 4 gg 0 x.gone.length false, (bb x.over)]] 0, .mp .i64 qe7] = some y ∧ ActEnd a0 a1 a2 am e0 i (qkg p i 16 x) y := by
  have := qf2 (f := exec (evL T) itL none qbl) (s := qs [0, 1, 4, 7] true 7) (α := Ex × Nat × Nat × Nat) (fun j _ => ⟨[(0, .ptr 5 0 0 0), (1, (.fsl ((p).map OpI.r) cl)), (4, .mp 6), (7, (ii ((j : Int))))], []⟩) (fun _ a => [.row 4 [[(ii a0), (ii a1), .sl 2 0 0 am false, (ii a2)]] 0, .row 4 [[(ii 0), (ii 0), .fsl [] false, (ii 0)]] 0, .row 4 ((a.1.procs).map Pr.r) a.2.1, .row 6 ((a.1.out).map Evt.r) a.2.2.1, .row 1 ((a.1.gone).map qep) a.2.2.2, .row 14 [[(ii a.1.r0), (ii a.1.r1), .sl 2 a.2.1 0 a.1.procs.length false, (ii a.1.sum), (ii a.1.ev.time), (.fsl ((a.1.ev.key).map qby) false), (ii a.1.ev.lp), (ii a.1.ev.kind), (ii a.1.ev.proc), (ii a.1.ev.arg), .sl 3 a.2.2.1 0 a.1.out.length false, (ii a.1.n), .sl 4 a.2.2.2 0 a.1.gone.length false, (bb a.1.over)]] 0, .mp .i64 qe7])
    (fun j a => ActInv e0 i j a.1 ∧ qkg p i (16 - j) a.1 = qkg p i 16 x) 16 (ActEnd a0 a1 a2 am e0 i (qkg p i 16 x)) ?_ ?_ 0 (x, gp, gc, gg) (Nat.zero_le _) ⟨h0, rfl⟩
  · exact this
  · rintro j ⟨y, gp, gc, gg⟩ hj ⟨hi1, hi2⟩
    simp only at hi1 hi2 ⊢
    obtain ⟨q, hq, hpc⟩ := hi1.has
    have hlt := (List.getElem?_eq_some_iff.1 hq).1
    have hpr' : y.ev.proc = i := by rw [hi1.ev]; exact hpr
    have hj' : (j : Int) < 16 := by omega
    have hw : IntKind.i64.wrap ((j : Int) + 1) = ((j + 1 : Nat) : Int) := by rw [qas (by omega) (by omega)]; simp
    have s1 := qqw a0 a1 a2 am y gp gc gg i hpr' hlt
    rw [show 16 - j = (16 - (j + 1)) + 1 from by omega, qkg, hq] at hi2
    simp only at hi2
    cases hop : p[q.pc.toNat]? with
    | none =>
      rw [hop] at hi2
      simp only at hi2
      have hge : q.pc ≥ (p.length : Int) := by have := List.getElem?_eq_none_iff.1 hop; omega
      right
      simp only [qbl, hj', hge, s1, List.getElem?_map, Option.map_some, hq, Pr.r, Ev.exec, qb, qe, qc, qjw, qai, Ev.evs, Ev.Opnd.ev, Ev.Env.get, Ev.Env.set, Ev.look, qf, qv, ql, qbu, List.length_map, ↓qn, Ev.it1, ↓reduceIte, List.getElem?_cons_zero, List.getElem?_cons_succ, List.drop_succ_cons, List.drop_zero, List.head?_cons, Nat.reduceEqDiff, reduceCtorEq, decide_true, zfa, zfd, eq_self]
      exact ⟨_, rfl, y, gp, gc, gg, rfl, rfl, .inr ⟨rfl, rfl, hi2, ⟨hi1.ev, hi1.has, hi1.procs, by have := hi1.out; omega, by have := hi1.gone; omega⟩⟩⟩
    | some op =>
      rw [hop] at hi2
      simp only at hi2
      have hlp := (List.getElem?_eq_some_iff.1 hop).1
      have hge : ¬ q.pc ≥ (p.length : Int) := by omega
      have hwq : w64 (q.pc + 1) = q.pc + 1 := qas (by omega) (by omega)
      have hwq' : IntKind.i64.wrap (q.pc + 1) = q.pc + 1 := hwq
      have hset : (y.procs.map Pr.r).set i [(ii q.prog), (ii (q.pc + 1)), (bb q.alive), (.fsl ((q.timer).map qby) false)] = (y.procs.set i { q with pc := q.pc + 1 }).map Pr.r := by rw [List.map_set]; rfl
      have hl : (y.procs.set i { q with pc := q.pc + 1 }).length = y.procs.length := by simp
      rw [hwq] at hi2
      have hz : ActInv e0 i j (y.setP i { q with pc := q.pc + 1 }) := hi1.pc hq (by omega) q.alive
      have hzq : (y.setP i { q with pc := q.pc + 1 }).procs[i]? = some { q with pc := q.pc + 1 } := by simp only [Ex.setP]; rw [List.getElem?_set_self hlt]
      have hzp : (y.setP i { q with pc := q.pc + 1 }).ev.proc = i := hpr'
      have hoo := hok op (List.mem_of_getElem? hop)
      have hn := hz.step hzq (show 0 ≤ q.pc + 1 ∧ q.pc + 1 ≤ 1000000 by omega) hoo
      obtain ⟨k, gp', gc', gg', t1, t2⟩ := step_ev a0 a1 a2 am (y.setP i { q with pc := q.pc + 1 }) gp gc gg op i { q with pc := q.pc + 1 } (hz.small (by omega) hk) (by have := hz.gone; omega) hzp hzq hoo
      generalize hS : qc4 (y.setP i { q with pc := q.pc + 1 }) i { q with pc := q.pc + 1 } op = S at hi2 hn t2
      obtain ⟨z, sig⟩ := S
      simp only at hi2 hn t2
      have hsig : sig = 0 ∨ sig = 1 ∨ sig = 2 := by
        have : (qc4 (y.setP i { q with pc := q.pc + 1 }) i { q with pc := q.pc + 1 } op).2 = sig := by rw [hS]
        rw [← this]
        unfold qc4
        repeat' (first | (split) | exact .inl rfl | exact .inr (.inl rfl) | exact .inr (.inr rfl))
      simp only [Ex.setP, hl] at t2
      obtain ⟨qz, hqz, hqzp⟩ := hn.has
      have hltz := (List.getElem?_eq_some_iff.1 hqz).1
      have s2 := qqw a0 a1 a2 am z gp' gc' gg' i (by rw [hn.ev]; exact hpr) hltz
      rcases hsig with rfl | rfl | rfl
      · left
        refine ⟨(z, gp', gc', gg'), ?_, hn, ?_⟩
        · simp only [qbl, hj', hge, s1, hpc, hop, hwq', t1, t2, hw, List.getElem?_map, Option.map_some, hq, Pr.r, OpI.r, qh8, qw, qae, qaa, qbn, Nat.reduceLT, Nat.reduceLeDiff, Ev.exec, qb, qe, qc, qjw, qs8, qai, Ev.evs, Ev.Opnd.ev, Ev.Env.get, Ev.Env.set, Ev.look, qf, qv, Ev.AV.cells, Ev.AV.uc, qo, Ev.AV.plain, qao, qar, ql, qbu, qs, Ev.keep, qal, qaf, qg, Ev.SObj.lo, qbb, qm, qds, qg6, Ev.lo_mp, Ev.gotL, qh, qd, qu, qak, List.length_map, ↓qn, Ev.it1, ↓reduceIte, List.length_cons, List.length_nil, List.getElem?_cons_zero, List.getElem?_cons_succ, List.take_succ_cons, List.take_zero, zfe, List.drop_succ_cons, List.drop_zero, List.cons_append, List.nil_append, List.append_nil, List.set_cons_zero, List.set_cons_succ, List.head?_cons, Nat.reduceAdd, Nat.reduceEqDiff, Nat.reduceLT, Nat.reduceLeDiff, Int.reduceEq, reduceCtorEq, decide_true, decide_false, zfc, zfa, and_self, zfd, Nat.lt_add_one, Nat.le_refl, eq_self, hset]
        · simp only [show ¬ (0 : Int) = 1 from by decide, show ¬ (0 : Int) = 2 from by decide, if_false] at hi2
          exact hi2
      · right
        simp only [if_true] at hi2
        simp only [qbl, hj', hge, s1, hpc, hop, hwq', t1, t2, List.getElem?_map, Option.map_some, hq, Pr.r, OpI.r, Nat.reduceLeDiff, Ev.exec, qb, qe, qc, qjw, qs8, qai, Ev.evs, Ev.Opnd.ev, Ev.Env.get, Ev.Env.set, Ev.look, qf, qv, Ev.AV.cells, Ev.AV.uc, qo, Ev.AV.plain, qao, qar, ql, qbu, Ev.gotL, List.length_map, ↓qn, Ev.it1, ↓reduceIte, List.length_cons, List.length_nil, List.getElem?_cons_zero, List.getElem?_cons_succ, List.take_succ_cons, List.take_zero, zfe, List.drop_succ_cons, List.drop_zero, List.cons_append, List.nil_append, List.append_nil, List.set_cons_zero, List.set_cons_succ, List.head?_cons, Nat.reduceAdd, Nat.reduceEqDiff, Nat.reduceLeDiff, reduceCtorEq, decide_true, decide_false, zfc, zfa, and_self, zfd, Nat.le_refl, eq_self, hset]
        exact ⟨_, rfl, z, gp', gc', gg', rfl, rfl, .inl ⟨rfl, hi2, ⟨hn.ev, hn.has, hn.procs, by have := hn.out; omega, by have := hn.gone; omega⟩⟩⟩
      · right
        simp only [show ¬ (2 : Int) = 1 from by decide, if_true, if_false] at hi2
        have hkz : qk2 z i = z.setP i { qz with alive := false } := by unfold qk2; rw [hqz]
        rw [hkz] at hi2
        have hset2 : (z.procs.map Pr.r).set i [(ii qz.prog), (ii qz.pc), (bb false), (.fsl ((qz.timer).map qby) false)] = (z.procs.set i { qz with alive := false }).map Pr.r := by rw [List.map_set]; rfl
        have hl2 : (z.procs.set i { qz with alive := false }).length = z.procs.length := by simp
        have hfin := hn.pc hqz hqzp false
        simp only [qbl, hj', hge, s1, hpc, hop, hwq', t1, t2, s2, List.getElem?_map, Option.map_some, hq, hqz, Pr.r, OpI.r, Nat.reduceLeDiff, Ev.exec, qb, qe, qc, qjw, qs8, qai, Ev.evs, Ev.Opnd.ev, Ev.Env.get, Ev.Env.set, Ev.look, qf, qv, Ev.AV.cells, Ev.AV.uc, qo, Ev.AV.plain, qao, qar, ql, qbu, Ev.gotL, List.length_map, ↓qn, Ev.it1, ↓reduceIte, List.length_cons, List.length_nil, List.getElem?_cons_zero, List.getElem?_cons_succ, List.take_succ_cons, List.take_zero, zfe, List.drop_succ_cons, List.drop_zero, List.cons_append, List.nil_append, List.append_nil, List.set_cons_zero, List.set_cons_succ, List.head?_cons, Nat.reduceAdd, Nat.reduceEqDiff, Nat.reduceLeDiff, Int.reduceEq, reduceCtorEq, decide_true, decide_false, zfc, zfa, and_self, zfd, Nat.le_refl, eq_self, hset, hset2]
        refine ⟨_, rfl, z.setP i { qz with alive := false }, gp', gc', gg', ?_, rfl, .inl ⟨rfl, hi2, ⟨hfin.ev, hfin.has, hfin.procs, by have := hfin.out; omega, by have := hfin.gone; omega⟩⟩⟩
        simp only [Ex.setP, hl2]
  · rintro ⟨y, gp, gc, gg⟩ ⟨hi1, hi2⟩
    simp only [qbl, Int.lt_irrefl, Ev.exec, qb, qe, qc, qai, Ev.Opnd.ev, Ev.Env.get, Ev.Env.set, Ev.look, ql, ↓qn, Ev.it1, ↓reduceIte, Nat.reduceEqDiff, Int.cast_ofNat_Int, reduceCtorEq, decide_false, zfa, eq_self]
    exact ⟨_, rfl, y, gp, gc, gg, rfl, rfl, .inr ⟨rfl, rfl, hi2, hi1⟩⟩
end
set_option maxRecDepth 10000
theorem qqg : (evL T).call qc6 [] [] = some (.mp 0, [.mp .i64 qe7]) := by
  rw [qad qoh qn3]
  simp only [qf7, qe7, qj, Ev.exec, qb, qe, qc, qai, Ev.Opnd.ev, Ev.Env.get, Ev.Env.set, Ev.look, qk, qi, qq, qaj, Ev.kill, qag, qg, qy1, Ev.lo_mp, q6e, qh, ↓qn, ↓reduceIte, List.length_nil, List.getElem?_cons_zero, List.take_zero, List.nil_append, List.set_cons_zero, Nat.reduceLT, Int.reduceEq, decide_false, zfc, zfa, and_self, and_true, eq_self]
section
variable (a0 a1 a2 : Int) (am : Nat) (e0 : Evt) (i : Nat) (p : List OpI) (cl : Bool)
theorem q3f (hk : e0.key.length ≤ 100000) (hpr : e0.proc = i) (hpl : p.length ≤ 1000) (hok : ∀ op ∈ p, OpOk' op) (x : Ex) (gp gc gg : Nat) (h0 : ActInv e0 i 0 x) :
    ∃ gp' gc' gg', (evL T).call qb9 [.ptr 5 0 0 0, (.fsl ((p).map OpI.r) cl)] [.row 4 [[(ii a0), (ii a1), .sl 2 0 0 am false, (ii a2)]] 0, .row 4 [[(ii 0), (ii 0), .fsl [] false, (ii 0)]] 0, .row 4 ((x.procs).map Pr.r) gp, .row 6 ((x.out).map Evt.r) gc, .row 1 ((x.gone).map qep) gg, .row 14 [[(ii x.r0), (ii x.r1), .sl 2 gp 0 x.procs.length false, (ii x.sum), (ii x.ev.time), (.fsl ((x.ev.key).map qby) false), (ii x.ev.lp), (ii x.ev.kind), (ii x.ev.proc), (ii x.ev.arg), .sl 3 gc 0 x.out.length false, (ii x.n), .sl 4 gg 0 x.gone.length false, (bb x.over)]] 0] = some (.tup [], [.row 4 [[(ii a0), (ii a1), .sl 2 0 0 am false, (ii a2)]] 0, .row 4 [[(ii 0), (ii 0), .fsl [] false, (ii 0)]] 0, .row 4 (((qkg p i 16 x).procs).map Pr.r) gp', .row 6 (((qkg p i 16 x).out).map Evt.r) gc', .row 1 (((qkg p i 16 x).gone).map qep) gg', .row 14 [[(ii ((qkg p i 16 x).r0)), (ii ((qkg p i 16 x).r1)), .sl 2 gp' 0 (qkg p i 16 x).procs.length false, (ii ((qkg p i 16 x).sum)), (ii ((qkg p i 16 x).ev.time)), (.fsl (((qkg p i 16 x).ev.key).map qby) false), (ii ((qkg p i 16 x).ev.lp)), (ii ((qkg p i 16 x).ev.kind)), (ii ((qkg p i 16 x).ev.proc)), (ii ((qkg p i 16 x).ev.arg)), .sl 3 gc' 0 (qkg p i 16 x).out.length false, (ii ((qkg p i 16 x).n)), .sl 4 gg' 0 (qkg p i 16 x).gone.length false, (bb ((qkg p i 16 x).over))]] 0]) ∧ ActInv e0 i 16 (qkg p i 16 x) := by
  obtain ⟨⟨y, e, σ⟩, k1, z, gp', gc', gg', k2, k3, k4⟩ := act_loop a0 a1 a2 am e0 i p cl hk hpr hpl hok x gp gc gg h0
  simp only at k2 k3 k4
  subst k2
  generalize qkg p i 16 x = F at k4
  rw [qad qk4 qkx]
  rcases k4 with ⟨rfl, rfl, k5⟩ | ⟨rfl, k5, k6, k7⟩
  · refine ⟨gp', gc', gg', ?_, k5⟩
    simp only [qc8, qqg, k1, k3, qh8, qw, qae, qaa, qbn, Nat.reduceLT, qj, Ev.exec, qb, qe, qc, qrm, q1h, Ev.AV.shift, qai, Ev.evs, Ev.Opnd.ev, Ev.Env.get, Ev.Env.set, Ev.look, qk, qi, qaj, Ev.kill, qag, qs, Ev.keep, qal, qaf, qg, Ev.SObj.lo, qbb, qb1, qm, qds, qg6, Ev.lo_mp, qh, qd, qu, qak, qgx, qel, ↓qn, ↓qa3, ↓reduceIte, List.length_cons, List.length_nil, List.take_succ_cons, List.take_zero, zfe, List.cons_append, List.nil_append, Nat.reduceAdd, Nat.reduceEqDiff, Nat.reduceLT, reduceCtorEq, decide_true, zfc, and_self, zfd, Nat.lt_add_one, eq_self]
  · obtain ⟨q, hq, hpc⟩ := k7.has
    have hlt := (List.getElem?_eq_some_iff.1 hq).1
    have s2 := qqw a0 a1 a2 am z gp' gc' gg' i (by rw [k7.ev]; exact hpr) hlt
    have hkz : qk2 z i = z.setP i { q with alive := false } := by unfold qk2; rw [hq]
    rw [hkz] at k6
    have hset : (z.procs.map Pr.r).set i [(ii q.prog), (ii q.pc), (bb false), (.fsl ((q.timer).map qby) false)] = (z.procs.set i { q with alive := false }).map Pr.r := by rw [List.map_set]; rfl
    have hl : (z.procs.set i { q with alive := false }).length = z.procs.length := by simp
    have hfin := k7.pc hq hpc false
    subst k6
    refine ⟨gp', gc', gg', ?_, hfin⟩
    simp only [Ex.setP, hl]
    simp only [qc8, qqg, k1, k3, k5, s2, List.getElem?_map, Option.map_some, hq, Pr.r, qh8, qw, qae, qaa, qbn, Nat.reduceLT, Nat.reduceLeDiff, qj, Ev.exec, qb, qe, qc, qrm, qjw, q1h, Ev.AV.shift, qai, Ev.evs, Ev.Opnd.ev, Ev.Env.get, Ev.Env.set, Ev.look, qk, Ev.AV.cells, Ev.AV.uc, qo, Ev.AV.plain, qi, qaj, Ev.kill, qag, qs, Ev.keep, qal, qaf, qg, Ev.SObj.lo, qbb, qb1, qm, qds, qg6, Ev.lo_mp, qh, qd, qu, qak, qgx, qel, ↓qn, ↓qa3, ↓reduceIte, List.length_cons, List.length_nil, List.getElem?_cons_zero, List.getElem?_cons_succ, List.take_succ_cons, List.take_zero, zfe, List.drop_succ_cons, List.drop_zero, List.cons_append, List.nil_append, List.set_cons_zero, List.set_cons_succ, Nat.reduceAdd, Nat.reduceEqDiff, Nat.reduceLT, Nat.reduceLeDiff, reduceCtorEq, decide_true, zfc, and_self, zfd, Nat.lt_add_one, eq_self, hset]
end
set_option maxRecDepth 10000
theorem qy5 (l : List Pr) (c : Bool) (h : l.length ≤ 1000) : (evL T).call qci [(.fsl ((l).map Pr.r) c)] [] = some (.sl 0 0 0 l.length false, [.row 4 (l.map Pr.r) 0]) := by
  have h' : l.length * 48 ≤ 140737488355328 := by omega
  rw [q3r qj9]
  simp only [qro, qae, q0k, h', qm, qh, qd, List.length_map, ↓reduceIte, Nat.reduceLT, Nat.reducePow, zfc, and_self, eq_self]
theorem q4i (a0 a1 a2 : Int) (am : Nat) (x : Ex) (gp gc gg : Nat) (i : Nat) (hi : x.ev.proc = i) (hp : i < x.procs.length) :
    (evL T).call qap [.ptr 5 0 0 0] [.row 4 [[(ii a0), (ii a1), .sl 2 0 0 am false, (ii a2)]] 0, .row 4 [[(ii 0), (ii 0), .fsl [] false, (ii 0)]] 0, .row 4 ((x.procs).map Pr.r) gp, .row 6 ((x.out).map Evt.r) gc, .row 1 ((x.gone).map qep) gg, .row 14 [[(ii x.r0), (ii x.r1), .sl 2 gp 0 x.procs.length false, (ii x.sum), (ii x.ev.time), (.fsl ((x.ev.key).map qby) false), (ii x.ev.lp), (ii x.ev.kind), (ii x.ev.proc), (ii x.ev.arg), .sl 3 gc 0 x.out.length false, (ii x.n), .sl 4 gg 0 x.gone.length false, (bb x.over)]] 0] = some (.ptr 2 gp i 0, [.row 4 [[(ii a0), (ii a1), .sl 2 0 0 am false, (ii a2)]] 0, .row 4 [[(ii 0), (ii 0), .fsl [] false, (ii 0)]] 0, .row 4 ((x.procs).map Pr.r) gp, .row 6 ((x.out).map Evt.r) gc, .row 1 ((x.gone).map qep) gg, .row 14 [[(ii x.r0), (ii x.r1), .sl 2 gp 0 x.procs.length false, (ii x.sum), (ii x.ev.time), (.fsl ((x.ev.key).map qby) false), (ii x.ev.lp), (ii x.ev.kind), (ii x.ev.proc), (ii x.ev.arg), .sl 3 gc 0 x.out.length false, (ii x.n), .sl 4 gg 0 x.gone.length false, (bb x.over)]] 0]) := by
  rw [qad qjo qi9]
  simp only [qd6, hi, hp, Int.natCast_nonneg, Int.toNat_natCast, qw, qae, qaa, qbn, Nat.reduceLT, qj, Ev.exec, qb, qe, qc, qai, Ev.Opnd.ev, Ev.Env.get, Ev.Env.set, Ev.look, qk, qf, qv, qi, qq, qaj, Ev.kill, qag, qg, Ev.SObj.lo, qbb, qm, qds, qg6, qh, qd, qu, qak, ↓qn, ↓reduceIte, List.length_cons, List.length_nil, List.getElem?_cons_zero, List.getElem?_cons_succ, List.take_succ_cons, zfe, List.drop_succ_cons, List.drop_zero, List.head?_cons, Nat.reduceAdd, Nat.reduceEqDiff, Nat.reduceLT, reduceCtorEq, decide_true, zfc, zfa, and_self, zfd, Nat.add_zero, eq_self]
def qcg (x : Lp) (e : Evt) : Ex := ⟨x.r0, x.r1, x.procs, x.sum, e, [], 0, [], false⟩
def qii (e : Evt) (q : Pr) : Pr := if e.kind = 2 then { q with pc := e.arg, timer := if q.timer = e.key then [] else q.timer } else q
def q09 (x : Ex) : Lp := ⟨x.r0, x.r1, x.procs, x.sum⟩
def qlf (x : Lp) (e : Evt) : Option Pr := if (e.kind = 1 ∨ e.kind = 2) ∧ 0 ≤ e.proc then (x.procs[e.proc.toNat]?).bind fun q => if q.alive = true then some q else none else none
def qpe (c : Cfg) (x : Lp) (e : Evt) (q : Pr) : Ex := qkg ((c.progs[q.prog.toNat]?).getD []) e.proc.toNat 16 ((qcg x e).setP e.proc.toNat (qii e q))
structure qth (c : Cfg) (x : Lp) (e : Evt) : Prop where
  procs : x.procs.length ≤ 20
  key : e.key.length ≤ 100000
  proc : ∀ q ∈ x.procs, 0 ≤ q.prog ∧ q.prog < c.progs.length ∧ 0 ≤ q.pc ∧ q.pc ≤ 1000000 ∧ q.timer.length ≤ 100000
  prog : ∀ p ∈ c.progs, p.length ≤ 1000 ∧ ∀ op ∈ p, OpOk' op
  arg : e.kind = 2 → 0 ≤ e.arg ∧ e.arg ≤ 1000000
section
variable (c : Cfg) (x : Lp) (e : Evt)
theorem Exec_msg (hk : e.kind = 3) : qa4 (evL T) qdr [(.agg [(.fsl ((c.lps).map lpC) false), (.fsl ((c.progs).map qce) false), (ii c.look), (ii c.fin), (ii c.cap)]), (.agg [(ii x.r0), (ii x.r1), (.fsl ((x.procs).map Pr.r) false), (ii x.sum)]), (.agg [(ii e.time), (.fsl ((e.key).map qby) false), (ii e.lp), (ii e.kind), (ii e.proc), (ii e.arg)])] = some (.tup [(.agg [(ii ((⟨x.r0, x.r1, x.procs, w64 (x.sum + e.arg)⟩ : Lp).r0)), (ii ((⟨x.r0, x.r1, x.procs, w64 (x.sum + e.arg)⟩ : Lp).r1)), (.fsl (((⟨x.r0, x.r1, x.procs, w64 (x.sum + e.arg)⟩ : Lp).procs).map Pr.r) false), (ii ((⟨x.r0, x.r1, x.procs, w64 (x.sum + e.arg)⟩ : Lp).sum))]), .fsl [] true, .fsl [] true, (bb false)]) := by
  rw [qa4, qad qj3 qjf]
  simp only [qbr, hk, qae, qj, Ev.exec, qb, qe, qc, qai, Ev.Opnd.ev, Ev.Env.get, Ev.Env.set, Ev.look, qk, qf, qv, Ev.AV.cells, Ev.AV.uc, qo, Ev.AV.plain, qao, qar, qi, qq, qaj, Ev.kill, qag, qg, qbb, qa2, qb1, qm, qh, qd, qu, qx, ↓qn, ↓reduceIte, List.length_cons, List.length_nil, List.getElem?_cons_zero, List.getElem?_cons_succ, List.take_succ_cons, List.take_zero, zfe, List.drop_succ_cons, List.drop_zero, List.drop_nil, List.cons_append, List.nil_append, List.append_nil, List.set_cons_zero, List.set_cons_succ, List.head?_cons, Nat.reduceAdd, Nat.reduceEqDiff, reduceCtorEq, decide_true, zfc, zfa, and_self, ne_eq, zfb, zff, zfd, Nat.le_refl, eq_self]
theorem q7u (hk : ¬ e.kind = 3) (ha : qlf x e = none) : qa4 (evL T) qdr [(.agg [(.fsl ((c.lps).map lpC) false), (.fsl ((c.progs).map qce) false), (ii c.look), (ii c.fin), (ii c.cap)]), (.agg [(ii x.r0), (ii x.r1), (.fsl ((x.procs).map Pr.r) false), (ii x.sum)]), (.agg [(ii e.time), (.fsl ((e.key).map qby) false), (ii e.lp), (ii e.kind), (ii e.proc), (ii e.arg)])] = some (.tup [(.agg [(ii x.r0), (ii x.r1), (.fsl ((x.procs).map Pr.r) false), (ii x.sum)]), .fsl [] true, .fsl [] true, (bb false)]) := by
  rw [qa4, qad qj3 qjf]
  by_cases k1 : e.kind = 1
  case neg =>
    by_cases k2 : e.kind = 2
    case neg => simp only [qbr, hk, k1, k2, qae, qj, Ev.exec, qb, qe, qc, qai, Ev.Opnd.ev, Ev.Env.get, Ev.Env.set, Ev.look, qk, qf, qv, Ev.AV.cells, qo, Ev.AV.plain, qar, qbe, qi, qq, qaj, Ev.kill, qag, qg, qbb, qa2, qb1, qm, qh, qd, qu, qx, ↓qn, ↓reduceIte, List.length_cons, List.length_nil, List.getElem?_cons_zero, List.getElem?_cons_succ, List.take_succ_cons, List.take_zero, zfe, List.drop_succ_cons, List.drop_zero, List.drop_nil, List.cons_append, List.nil_append, List.append_nil, List.set_cons_zero, List.set_cons_succ, List.head?_cons, Nat.reduceAdd, Nat.reduceEqDiff, reduceCtorEq, decide_true, decide_false, zfc, zfa, and_self, ne_eq, zfb, zff, zfd, Nat.le_refl, eq_self]
    by_cases h1 : e.proc < 0
    · simp only [qbr, k2, h1, qae, qj, Ev.exec, qb, qe, qc, qai, Ev.Opnd.ev, Ev.Env.get, Ev.Env.set, Ev.look, qk, qf, qv, Ev.AV.cells, qo, Ev.AV.plain, qar, qbe, ql, qi, qq, qaj, Ev.kill, qag, qg, qbb, qa2, qb1, qm, qh, qd, qu, qx, ↓qn, ↓reduceIte, List.length_cons, List.length_nil, List.getElem?_cons_zero, List.getElem?_cons_succ, List.take_succ_cons, List.take_zero, zfe, List.drop_succ_cons, List.drop_zero, List.drop_nil, List.cons_append, List.nil_append, List.append_nil, List.set_cons_zero, List.set_cons_succ, List.head?_cons, Nat.reduceAdd, Nat.reduceEqDiff, Int.reduceEq, reduceCtorEq, decide_true, decide_false, zfc, zfa, and_self, ne_eq, zfb, not_true_eq_false, zff, zfd, Nat.le_refl, eq_self]
    by_cases h2 : e.proc ≥ (x.procs.length : Int)
    · simp only [qbr, k2, h1, h2, qae, qj, Ev.exec, qb, qe, qc, qai, Ev.Opnd.ev, Ev.Env.get, Ev.Env.set, Ev.look, qk, qf, qv, Ev.AV.cells, qo, Ev.AV.plain, qar, qbe, ql, qbu, qi, qq, qaj, Ev.kill, qag, qg, qbb, qa2, qb1, qm, qh, qd, qu, qx, List.length_map, ↓qn, ↓reduceIte, List.length_cons, List.length_nil, List.getElem?_cons_zero, List.getElem?_cons_succ, List.take_succ_cons, List.take_zero, zfe, List.drop_succ_cons, List.drop_zero, List.drop_nil, List.cons_append, List.nil_append, List.append_nil, List.set_cons_zero, List.set_cons_succ, List.head?_cons, Nat.reduceAdd, Nat.reduceEqDiff, Int.reduceEq, reduceCtorEq, decide_true, decide_false, zfc, zfa, and_self, ne_eq, zfb, not_true_eq_false, zff, zfd, Nat.le_refl, eq_self]
    obtain ⟨q, hq⟩ : ∃ q, x.procs[e.proc.toNat]? = some q := ⟨_, List.getElem?_eq_getElem (by omega)⟩
    have h0 : 0 ≤ e.proc := by omega
    have hal : q.alive = false := by
      unfold qlf at ha
      rw [if_pos ⟨.inr k2, h0⟩, hq] at ha
      cases h : q.alive with
      | false => rfl
      | true => simp [h] at ha
    simp only [qbr, k2, h0, h1, h2, hq, hal, List.getElem?_map, Option.map_some, Pr.r, qae, qj, Ev.exec, qb, qe, qc, qai, Ev.Opnd.ev, Ev.Env.get, Ev.Env.set, Ev.look, qk, qf, qv, Ev.AV.cells, qo, Ev.AV.plain, qar, qbe, ql, qbu, qi, qq, qaj, Ev.kill, qag, qg, qbb, qa2, qb1, qm, qh, qd, qu, qx, List.length_map, ↓qn, ↓reduceIte, List.length_cons, List.length_nil, List.getElem?_cons_zero, List.getElem?_cons_succ, List.take_succ_cons, List.take_zero, zfe, List.drop_succ_cons, List.drop_zero, List.drop_nil, List.cons_append, List.nil_append, List.append_nil, List.set_cons_zero, List.set_cons_succ, List.head?_cons, Nat.reduceAdd, Nat.reduceEqDiff, Int.reduceEq, reduceCtorEq, decide_true, decide_false, zfc, Bool.not_false, zfa, and_self, ne_eq, zfb, not_true_eq_false, zff, zfd, Nat.le_refl, eq_self]
  by_cases h1 : e.proc < 0
  · simp only [qbr, k1, h1, qae, qj, Ev.exec, qb, qe, qc, qai, Ev.Opnd.ev, Ev.Env.get, Ev.Env.set, Ev.Env.unset, Ev.look, qk, qf, qv, Ev.AV.cells, qo, Ev.AV.plain, qar, qbe, ql, qi, qq, qaj, Ev.kill, qag, qg, qbb, qa2, qb1, qm, qh, qd, qu, qx, ↓qn, ↓reduceIte, List.length_cons, List.length_nil, List.getElem?_cons_zero, List.getElem?_cons_succ, List.take_succ_cons, List.take_zero, zfe, List.drop_succ_cons, List.drop_zero, List.drop_nil, List.cons_append, List.nil_append, List.append_nil, List.set_cons_zero, List.set_cons_succ, List.head?_cons, Nat.reduceAdd, Nat.reduceEqDiff, Int.reduceEq, reduceCtorEq, decide_true, decide_false, zfc, zfa, and_self, ne_eq, zfb, not_true_eq_false, zff, zfd, Nat.le_refl, eq_self]
  by_cases h2 : e.proc ≥ (x.procs.length : Int)
  · simp only [qbr, k1, h1, h2, qae, qj, Ev.exec, qb, qe, qc, qai, Ev.Opnd.ev, Ev.Env.get, Ev.Env.set, Ev.Env.unset, Ev.look, qk, qf, qv, Ev.AV.cells, qo, Ev.AV.plain, qar, qbe, ql, qbu, qi, qq, qaj, Ev.kill, qag, qg, qbb, qa2, qb1, qm, qh, qd, qu, qx, List.length_map, ↓qn, ↓reduceIte, List.length_cons, List.length_nil, List.getElem?_cons_zero, List.getElem?_cons_succ, List.take_succ_cons, List.take_zero, zfe, List.drop_succ_cons, List.drop_zero, List.drop_nil, List.cons_append, List.nil_append, List.append_nil, List.set_cons_zero, List.set_cons_succ, List.head?_cons, Nat.reduceAdd, Nat.reduceEqDiff, Int.reduceEq, reduceCtorEq, decide_true, decide_false, zfc, zfa, and_self, ne_eq, zfb, not_true_eq_false, zff, zfd, Nat.le_refl, eq_self]
  obtain ⟨q, hq⟩ : ∃ q, x.procs[e.proc.toNat]? = some q := ⟨_, List.getElem?_eq_getElem (by omega)⟩
  have h0 : 0 ≤ e.proc := by omega
  have hal : q.alive = false := by
    unfold qlf at ha
    rw [if_pos ⟨.inl k1, h0⟩, hq] at ha
    cases h : q.alive with
    | false => rfl
    | true => simp [h] at ha
  simp only [qbr, k1, h0, h1, h2, hq, hal, List.getElem?_map, Option.map_some, Pr.r, qae, qj, Ev.exec, qb, qe, qc, qai, Ev.Opnd.ev, Ev.Env.get, Ev.Env.set, Ev.Env.unset, Ev.look, qk, qf, qv, Ev.AV.cells, qo, Ev.AV.plain, qar, qbe, ql, qbu, qi, qq, qaj, Ev.kill, qag, qg, qbb, qa2, qb1, qm, qh, qd, qu, qx, List.length_map, ↓qn, ↓reduceIte, List.length_cons, List.length_nil, List.getElem?_cons_zero, List.getElem?_cons_succ, List.take_succ_cons, List.take_zero, zfe, List.drop_succ_cons, List.drop_zero, List.drop_nil, List.cons_append, List.nil_append, List.append_nil, List.set_cons_zero, List.set_cons_succ, List.head?_cons, Nat.reduceAdd, Nat.reduceEqDiff, Int.reduceEq, reduceCtorEq, decide_false, zfc, Bool.not_false, zfa, and_self, ne_eq, zfb, not_true_eq_false, zff, zfd, Nat.le_refl, eq_self]
end
set_option maxRecDepth 10000
section
variable (c : Cfg) (x : Lp) (e : Evt)
theorem qx2 (h : qth c x e) {i : Nat} {q : Pr} (hi : e.proc = i) (hq : x.procs[i]? = some q) : ActInv e i 0 ((qcg x e).setP i (qii e q)) := by
  have hlt := (List.getElem?_eq_some_iff.1 hq).1
  obtain ⟨p1, p2, p3, p4, p5⟩ := h.proc q (List.mem_of_getElem? hq)
  refine ⟨rfl, ⟨qii e q, by simp only [Ex.setP, qcg]; rw [List.getElem?_set_self hlt], ?_⟩, by simp only [Ex.setP, qcg, List.length_set]; exact h.procs, Nat.le_refl _, Nat.le_refl _⟩
  unfold qii
  by_cases k : e.kind = 2
  · rw [if_pos k]; exact h.arg k
  · rw [if_neg k]; exact ⟨p3, p4⟩
theorem qw5 (q : Pr) : (qii e q).prog = q.prog := by unfold qii; split <;> rfl
theorem Exec_run (h : qth c x e) {q : Pr} (ha : qlf x e = some q) :
    qa4 (evL T) qdr [(.agg [(.fsl ((c.lps).map lpC) false), (.fsl ((c.progs).map qce) false), (ii c.look), (ii c.fin), (ii c.cap)]), (.agg [(ii x.r0), (ii x.r1), (.fsl ((x.procs).map Pr.r) false), (ii x.sum)]), (.agg [(ii e.time), (.fsl ((e.key).map qby) false), (ii e.lp), (ii e.kind), (ii e.proc), (ii e.arg)])] = some (.tup [(.agg [(ii ((q09 (qpe c x e q)).r0)), (ii ((q09 (qpe c x e q)).r1)), (.fsl (((q09 (qpe c x e q)).procs).map Pr.r) false), (ii ((q09 (qpe c x e q)).sum))]), (.fsl (((qpe c x e q).out).map Evt.r) false), (.fsl (((qpe c x e q).gone).map qep) false), (bb ((qpe c x e q).over))]) := by
  unfold qlf at ha
  split at ha
  case isFalse => cases ha
  rename_i hc
  obtain ⟨hkind, h0⟩ := hc
  obtain ⟨i, hi⟩ : ∃ i : Nat, e.proc = i := ⟨_, (Int.toNat_of_nonneg h0).symm⟩
  have hin : e.proc.toNat = i := by omega
  rw [hin, Option.bind_eq_some_iff] at ha
  obtain ⟨q', hq, ha⟩ := ha
  split at ha
  case isFalse => cases ha
  rename_i hal
  cases ha
  have hlt := (List.getElem?_eq_some_iff.1 hq).1
  obtain ⟨p1, p2, p3, p4, p5⟩ := h.proc q (List.mem_of_getElem? hq)
  obtain ⟨p, hp⟩ : ∃ p, c.progs[q.prog.toNat]? = some p := ⟨_, List.getElem?_eq_getElem (by omega)⟩
  obtain ⟨pl, pok⟩ := h.prog p (List.mem_of_getElem? hp)
  have hinv := qx2 c x e h hi hq
  obtain ⟨gp, gc, gg, hact, hend⟩ := q3f x.r0 x.r1 x.sum x.procs.length e i p false h.key hi pl pok ((qcg x e).setP i (qii e q)) 0 0 0 hinv
  have hrun : qpe c x e q = qkg p i 16 ((qcg x e).setP i (qii e q)) := by unfold qpe; rw [hin, hp]; rfl
  rw [hrun]
  generalize qkg p i 16 ((qcg x e).setP i (qii e q)) = F at hact hend
  have hcl := qy5 x.procs false (by have := h.procs; omega)
  have h1 : ¬ e.proc < 0 := by omega
  have h2 : ¬ e.proc ≥ (x.procs.length : Int) := by omega
  have h9 : ((i : Int)).toNat = i := Int.toNat_natCast i
  have h3 : ¬ e.kind = 3 := by omega
  have s0 := q4i x.r0 x.r1 x.sum x.procs.length (qcg x e) 0 0 0 i hi hlt
  have hset : (x.procs.map Pr.r).set i [(ii ((qii e q).prog)), (ii ((qii e q).pc)), (bb ((qii e q).alive)), (.fsl (((qii e q).timer).map qby) false)] = (x.procs.set i (qii e q)).map Pr.r := by rw [List.map_set]; rfl
  have hl : (x.procs.set i (qii e q)).length = x.procs.length := by simp
  have hq2 : (x.procs.set i (qii e q))[i]? = some (qii e q) := by rw [List.getElem?_set_self hlt]
  have s1 := q4i x.r0 x.r1 x.sum x.procs.length ((qcg x e).setP i (qii e q)) 0 0 0 i hi (by simp only [Ex.setP, qcg, List.length_set]; exact hlt)
  rw [hi] at h0 h1 h2
  simp only [qcg, List.map_nil, List.length_nil, hi] at s0
  simp only [qcg, Ex.setP, List.map_nil, List.length_nil, hl, hi] at s1 hact
  have ft : ∀ {τ : Type} (l : List τ) (f : τ → List AV), List.take l.length (l.map f) = l.map f := fun l f => List.take_of_length_le (by simp)
  have hpr := qw5 e q
  rw [qa4, qad qj3 qjf]
  rcases hkind with k1 | k2
  · have hwk : qii e q = q := by unfold qii; rw [if_neg (by omega)]
    have hss : x.procs.set i q = x.procs := by
      obtain ⟨hlt', hge⟩ := List.getElem?_eq_some_iff.1 hq
      rw [← hge, List.set_getElem_self]
    rw [hwk, hss] at hact
    have k2 : ¬ e.kind = 2 := by omega
    have k3 : ¬ (1 : Int) = 3 := by decide
    have k4 : ¬ (1 : Int) = 2 := by decide
    simp only [k1] at s0 hact ⊢
    simp only [qbr, k3, k4, h0, h1, h2, hi, hq, hal, hcl, s0, p1, hp, hact, ft, q09, Int.toNat_natCast, List.getElem?_map, Option.map_some, Pr.r, qce, qae, qaa, qbn, Nat.reduceLT, Nat.reduceLeDiff, qj, Ev.exec, qb, qe, qc, qrm, qjw, q1h, Ev.AV.shift, qai, q25, Ev.evs, Ev.Opnd.ev, Ev.Env.get, Ev.Env.set, Ev.Env.unset, Ev.look, qk, qf, qv, qfz, Ev.AV.cells, Ev.AV.uc, qo, Ev.AV.plain, qar, qbe, ql, qbu, qi, qq, qaj, Ev.kill, qag, qg, qbb, qa2, qb1, qm, qds, qmh, Ev.AV.obj?, qh, qd, qx, q04, quc, qhg, qe3, qgx, qel, qhb, List.length_map, ↓qn, ↓reduceIte, List.length_cons, List.length_nil, List.getElem?_cons_zero, List.getElem?_cons_succ, List.take_succ_cons, List.take_zero, zfe, List.drop_succ_cons, List.drop_zero, List.drop_nil, List.cons_append, List.nil_append, List.append_nil, List.set_cons_zero, List.set_cons_succ, List.head?_cons, Nat.reduceAdd, Nat.reduceEqDiff, Nat.reduceBEq, Nat.reduceLT, Nat.reduceLeDiff, reduceCtorEq, decide_false, zfc, Bool.and_true, Bool.not_true, Bool.not_false, zfa, and_self, and_true, ne_eq, zfb, not_true_eq_false, zff, zfd, Nat.add_zero, Nat.lt_add_one, Nat.le_refl, eq_self, Bool.and_false]
    done
  · have k1 : ¬ (2 : Int) = 1 := by decide
    have k3 : ¬ (2 : Int) = 3 := by decide
    have hkl := h.key
    have hwk : qii e q = { q with pc := e.arg, timer := if q.timer = e.key then [] else q.timer } := by unfold qii; rw [if_pos k2]
    obtain ⟨qp, qpc, qa, qt⟩ := q
    dsimp only at *
    subst hal
    have heq := qp3 qt e.key false false (by omega) (by omega)
    have hset1 : (x.procs.map Pr.r).set i [(ii qp), (ii e.arg), (bb true), (.fsl ((qt).map qby) false)] = (x.procs.set i ⟨qp, e.arg, true, qt⟩).map Pr.r := by rw [List.map_set]; rfl
    have hg1 : (x.procs.set i ⟨qp, e.arg, true, qt⟩)[i]? = some ⟨qp, e.arg, true, qt⟩ := by rw [List.getElem?_set_self hlt]
    have hset2 : ((x.procs.set i ⟨qp, e.arg, true, qt⟩).map Pr.r).set i [(ii qp), (ii e.arg), (bb true), .fsl [] false] = (x.procs.set i ⟨qp, e.arg, true, []⟩).map Pr.r := by
      have : x.procs.set i ⟨qp, e.arg, true, []⟩ = (x.procs.set i ⟨qp, e.arg, true, qt⟩).set i ⟨qp, e.arg, true, []⟩ := by rw [List.set_set]
      rw [this, List.map_set (l := x.procs.set i ⟨qp, e.arg, true, qt⟩)]; rfl
    have hl1 : (x.procs.set i ⟨qp, e.arg, true, qt⟩).length = x.procs.length := by simp
    rw [hwk] at s1 hact hq2
    simp only [k2] at s0 s1 hact ⊢
    by_cases ht : qt = e.key
    · simp only [ht, if_true] at s1 hact hq2
      simp only [ht, decide_true] at heq
      simp only [ht] at hset1 hset2 hg1
      simp only [qbr, k1, k3, h0, h1, h2, hi, hq, hcl, s0, s1, p1, hp, hact, ft, heq, hset1, hset2, hg1, hq2, ht, q09, Int.toNat_natCast, List.getElem?_map, Option.map_some, Pr.r, qce, qw, qae, qaa, qbn, Nat.reduceLT, Nat.reduceLeDiff, qj, Ev.exec, qb, qe, qc, qaw, qrm, qjw, q1h, Ev.AV.shift, qai, q25, Ev.evs, Ev.Opnd.ev, Ev.Env.get, Ev.Env.set, Ev.look, qk, qf, qv, qfz, Ev.AV.cells, Ev.AV.uc, qo, Ev.AV.plain, qar, qbe, ql, qbu, qi, qq, qaj, Ev.kill, qag, qg, qbb, qa2, qb1, qm, qds, qmh, Ev.AV.obj?, qh, qd, qx, q04, quc, qhg, qe3, qgx, qel, qhb, List.length_map, ↓qn, ↓reduceIte, List.length_cons, List.length_nil, List.getElem?_cons_zero, List.getElem?_cons_succ, List.take_succ_cons, List.take_zero, zfe, List.drop_succ_cons, List.drop_zero, List.drop_nil, List.cons_append, List.nil_append, List.append_nil, List.set_cons_zero, List.set_cons_succ, List.head?_cons, Nat.reduceAdd, Nat.reduceEqDiff, Nat.reduceBEq, Nat.reduceLT, Nat.reduceLeDiff, reduceCtorEq, decide_true, decide_false, zfc, Bool.and_true, Bool.not_true, Bool.not_false, zfa, and_self, and_true, ne_eq, zfb, not_true_eq_false, zff, zfd, Nat.add_zero, Nat.lt_add_one, Nat.le_refl, eq_self, Bool.and_false]
      done
    · simp only [ht, if_false] at s1 hact hq2
      simp only [ht, decide_false] at heq
      simp only [qbr, k1, k3, h0, h1, h2, hi, hq, hcl, s0, s1, p1, hp, hact, ft, heq, hset1, hg1, q09, Int.toNat_natCast, List.getElem?_map, Option.map_some, Pr.r, qce, qw, qae, qaa, qbn, Nat.reduceLT, Nat.reduceLeDiff, qj, Ev.exec, qb, qe, qc, qaw, qrm, qjw, q1h, Ev.AV.shift, qai, q25, Ev.evs, Ev.Opnd.ev, Ev.Env.get, Ev.Env.set, Ev.look, qk, qf, qv, qfz, Ev.AV.cells, Ev.AV.uc, qo, Ev.AV.plain, qar, qbe, ql, qbu, qi, qq, qaj, Ev.kill, qag, qg, qbb, qa2, qb1, qm, qds, qmh, Ev.AV.obj?, qh, qd, qx, q04, quc, qhg, qe3, qgx, qel, qhb, List.length_map, ↓qn, ↓reduceIte, List.length_cons, List.length_nil, List.getElem?_cons_zero, List.getElem?_cons_succ, List.take_succ_cons, List.take_zero, zfe, List.drop_succ_cons, List.drop_zero, List.drop_nil, List.cons_append, List.nil_append, List.append_nil, List.set_cons_zero, List.set_cons_succ, List.head?_cons, Nat.reduceAdd, Nat.reduceEqDiff, Nat.reduceBEq, Nat.reduceLT, Nat.reduceLeDiff, reduceCtorEq, decide_true, decide_false, zfc, Bool.and_true, Bool.not_true, Bool.not_false, zfa, and_self, and_true, ne_eq, zfb, not_true_eq_false, zff, zfd, Nat.add_zero, Nat.lt_add_one, Nat.le_refl, eq_self, Bool.and_false]
      done
end
set_option maxRecDepth 10000
structure Lp.Short (x : Lp) : Prop where
  len : x.procs.length ≤ 9223372036854775807
  timer : ∀ q ∈ x.procs, q.timer.length ≤ 9223372036854775807
section
variable (a b : Lp) (cf df : Bool)
theorem q5q (h1 : a.Short) (h2 : b.Short) : qa4 (evL T) qg4 [(.agg [(ii a.r0), (ii a.r1), (.fsl ((a.procs).map Pr.r) cf), (ii a.sum)]), (.agg [(ii b.r0), (ii b.r1), (.fsl ((b.procs).map Pr.r) df), (ii b.sum)])] = some (bb (decide (a = b))) := by
  obtain ⟨ar0, ar1, ap, as'⟩ := a
  obtain ⟨br0, br1, bp, bs'⟩ := b
  obtain ⟨l1, t1⟩ := h1
  obtain ⟨l2, t2⟩ := h2
  dsimp only at *
  simp only [Lp.mk.injEq]
  rw [qa4, qad qv0 quw]
  by_cases e1 : ar0 = br0
  case neg =>
    have e1' : (ar0 == br0) = false := beq_false_of_ne e1
    simp only [qer, e1, e1', false_and, decide_false, Bool.false_and, qj, Ev.exec, qb, qe, qc, qai, Ev.Opnd.ev, Ev.Env.get, Ev.Env.set, Ev.Env.unset, Ev.look, qk, qf, qv, Ev.AV.cells, qo, Ev.AV.plain, qhe, qi, qq, qaj, Ev.kill, qag, qg, qbb, qx, ↓qn, ↓reduceIte, List.length_cons, List.length_nil, List.take_succ_cons, List.take_zero, zfe, List.drop_zero, Nat.reduceAdd, Nat.reduceEqDiff, Nat.reduceLeDiff, reduceCtorEq, decide_false, zfc, Bool.and_true, Bool.not_false, Bool.true_eq_false, and_self, ne_eq, zfb, zff, zfd, eq_self, Bool.false_and, false_and]
  by_cases e2 : ar1 = br1
  case neg =>
    have e2' : (ar1 == br1) = false := beq_false_of_ne e2
    simp only [qer, e1, e2, e2', false_and, and_false, decide_false, Bool.and_false, beq_self_eq_true, Bool.and_true, qj, Ev.exec, qb, qe, qc, qai, Ev.Opnd.ev, Ev.Env.get, Ev.Env.set, Ev.Env.unset, Ev.look, qk, qf, qv, Ev.AV.cells, qo, Ev.AV.plain, qhe, qi, qq, qaj, Ev.kill, qag, qg, qbb, qx, ↓qn, ↓reduceIte, List.length_cons, List.length_nil, List.take_succ_cons, List.take_zero, zfe, List.drop_zero, Nat.reduceAdd, Nat.reduceEqDiff, Nat.reduceLeDiff, reduceCtorEq, decide_false, zfc, Bool.and_true, Bool.not_false, Bool.true_eq_false, and_self, ne_eq, zfb, zff, zfd, eq_self, beq_self_eq_true, Bool.and_false, false_and, and_false]
  subst e1
  subst e2
  by_cases e3 : as' = bs'
  case neg => simp only [qer, e3, and_false, decide_false, beq_self_eq_true, qj, Ev.exec, qb, qe, qc, qai, Ev.Opnd.ev, Ev.Env.get, Ev.Env.set, Ev.Env.unset, Ev.look, qk, qf, qv, Ev.AV.cells, qo, Ev.AV.plain, qbe, qhe, qi, qq, qaj, Ev.kill, qag, qg, qbb, qx, ↓qn, ↓reduceIte, List.length_cons, List.length_nil, List.take_succ_cons, List.take_zero, zfe, List.drop_succ_cons, List.drop_zero, List.head?_cons, Nat.reduceAdd, Nat.reduceEqDiff, Nat.reduceLeDiff, reduceCtorEq, decide_true, decide_false, zfc, Bool.not_true, zfa, Bool.true_eq_false, and_self, ne_eq, zfb, zff, zfd, eq_self, beq_self_eq_true, and_false]
  subst e3
  by_cases hab : ap.length = bp.length
  case neg =>
    have hab' : ¬ (ap.length : Int) = (bp.length : Int) := by omega
    have : ¬ ap = bp := fun h => hab (by rw [h])
    simp only [qer, hab', this, and_false, decide_false, beq_self_eq_true, qj, Ev.exec, qb, qe, qc, qai, Ev.Opnd.ev, Ev.Env.get, Ev.Env.set, Ev.look, qk, qf, qv, Ev.AV.cells, qo, Ev.AV.plain, qbe, qhe, qi, qq, qaj, Ev.kill, qag, qg, qbb, qx, List.length_map, ↓qn, ↓reduceIte, List.length_cons, List.length_nil, List.take_succ_cons, List.take_zero, zfe, List.drop_succ_cons, List.drop_zero, List.head?_cons, Nat.reduceAdd, Nat.reduceEqDiff, Nat.reduceLeDiff, reduceCtorEq, decide_true, decide_false, zfc, Bool.not_true, zfa, and_self, and_true, ne_eq, zfb, not_true_eq_false, zff, zfd, eq_self, beq_self_eq_true, and_false]
  have hab' : (ap.length : Int) = (bp.length : Int) := by omega
  have hzl : (ap.zip bp).length = ap.length := by rw [List.length_zip, ← hab, Nat.min_self]
  have hL : ∃ y, itB (exec (evL T) itL none qea) (qs [2, 3, 5] true 0) ⟨[(2, .fptr [(ii ar0), (ii ar1), (.fsl ((ap).map Pr.r) cf), (ii as')]), (3, .fptr [(ii ar0), (ii ar1), (.fsl ((bp).map Pr.r) df), (ii as')]), (5, (ii 0))], []⟩ [] = some y ∧ ((ap.zip bp).all (fun z => decide (z.1 = z.2)) = true ∧ (y.1 = .exit 0 ∧ y.2.1.marks = [] ∧ y.2.2 = []) ∨
      (ap.zip bp).all (fun z => decide (z.1 = z.2)) = false ∧ ∃ x, (ap.zip bp).find? (fun z => !decide (z.1 = z.2)) = some x ∧ (y.1 = .ret ∧ y.2.1.marks = [] ∧ y.2.2 = [.row 4 [x.1.r] 0, .row 4 [x.2.r] 0] ∧ Ev.look y.2.1.vars 4 = some (bb false))) := by
    refine qg9 (ap.zip bp) (fun i => ⟨[(2, .fptr [(ii ar0), (ii ar1), (.fsl ((ap).map Pr.r) cf), (ii as')]), (3, .fptr [(ii ar0), (ii ar1), (.fsl ((bp).map Pr.r) df), (ii as')]), (5, (ii i))], []⟩) [] (fun z => decide (z.1 = z.2)) _ (fun x y => _) ?_ ?_ ?_
    · intro i x hi hx hp
      rw [hzl] at hi
      have hi' : (i : Int) < (ap.length : Int) := by omega
      have hw : IntKind.i64.wrap ((i : Int) + 1) = ((i + 1 : Nat) : Int) := by rw [qas (by omega) (by omega)]; simp
      obtain ⟨hxa, hxb⟩ := List.getElem?_zip_eq_some.1 hx
      obtain ⟨⟨p1, p2, p3, p4⟩, q⟩ := x
      have hv := qof p4 p4 false false (t1 _ (List.mem_of_getElem? hxa)) (t1 _ (List.mem_of_getElem? hxa))
      simp only [decide_true] at hv
      simp only [decide_eq_true_eq] at hp
      subst hp
      cases p3 <;> simp only [qea, Int.natCast_nonneg, Int.toNat_natCast, List.getElem?_map, Option.map_some, hxa, hxb, hi', hw, hv, qae, qw, Pr.r, Ev.exec, qb, qe, qc, qaw, qai, Ev.evs, Ev.Opnd.ev, Ev.Env.get, Ev.Env.set, Ev.look, qf, qv, Ev.AV.cells, qo, Ev.AV.plain, qao, qbe, ql, qs, Ev.keep, qal, qaf, qg, qbb, qm, qbm, qh, qd, List.length_map, ↓qn, Ev.it1, ↓reduceIte, List.length_cons, List.length_nil, List.getElem?_cons_zero, List.getElem?_cons_succ, List.take_succ_cons, List.take_zero, zfe, List.drop_succ_cons, List.drop_zero, List.drop_nil, List.cons_append, List.nil_append, List.append_nil, List.set_cons_zero, List.set_cons_succ, List.head?_cons, Nat.reduceAdd, Nat.reduceEqDiff, decide_true, decide_false, zfc, Bool.not_true, zfa, and_self, ne_eq, zfb, not_true_eq_false, zff, zfd, Nat.add_zero, Nat.le_refl, eq_self, beq_self_eq_true]
    · intro i x hi hx hp
      rw [hzl] at hi
      have hi' : (i : Int) < (ap.length : Int) := by omega
      obtain ⟨hxa, hxb⟩ := List.getElem?_zip_eq_some.1 hx
      obtain ⟨⟨p1, p2, p3, p4⟩, ⟨q1, q2, q3, q4⟩⟩ := x
      have hv := qof p4 q4 false false (t1 _ (List.mem_of_getElem? hxa)) (t2 _ (List.mem_of_getElem? hxb))
      simp only [decide_eq_false_iff_not, Pr.mk.injEq] at hp
      by_cases f1 : p1 = q1
      case neg =>
        simp only [qea, Int.natCast_nonneg, Int.toNat_natCast, List.getElem?_map, Option.map_some, hxa, hxb, hi', f1, Pr.r, Ev.exec, qb, qe, qc, qai, Ev.Opnd.ev, Ev.Env.get, Ev.Env.set, Ev.Env.unset, Ev.look, qf, qv, Ev.AV.cells, qo, Ev.AV.plain, qbe, ql, List.length_map, ↓qn, Ev.it1, ↓reduceIte, List.length_cons, List.length_nil, List.getElem?_cons_zero, List.getElem?_cons_succ, List.take_succ_cons, List.take_zero, zfe, List.drop_succ_cons, List.drop_zero, List.drop_nil, List.cons_append, List.nil_append, List.append_nil, List.set_cons_zero, List.set_cons_succ, List.head?_cons, Nat.reduceAdd, Nat.reduceEqDiff, decide_true, zfc, zfa, Bool.true_eq_false, and_self, ne_eq, zfb, zff, zfd, Nat.add_zero, Nat.le_refl, eq_self]
        exact ⟨_, rfl, rfl, rfl, rfl, rfl⟩
      by_cases f2 : p2 = q2
      case neg =>
        simp only [qea, Int.natCast_nonneg, Int.toNat_natCast, List.getElem?_map, Option.map_some, hxa, hxb, hi', f1, f2, Pr.r, Ev.exec, qb, qe, qc, qai, Ev.Opnd.ev, Ev.Env.get, Ev.Env.set, Ev.Env.unset, Ev.look, qf, qv, Ev.AV.cells, qo, Ev.AV.plain, qbe, ql, List.length_map, ↓qn, Ev.it1, ↓reduceIte, List.length_cons, List.length_nil, List.getElem?_cons_zero, List.getElem?_cons_succ, List.take_succ_cons, List.take_zero, zfe, List.drop_succ_cons, List.drop_zero, List.drop_nil, List.cons_append, List.nil_append, List.append_nil, List.set_cons_zero, List.set_cons_succ, List.head?_cons, Nat.reduceAdd, Nat.reduceEqDiff, decide_true, decide_false, zfc, zfa, Bool.true_eq_false, and_self, ne_eq, zfb, not_true_eq_false, zff, zfd, Nat.add_zero, Nat.le_refl, eq_self]
        exact ⟨_, rfl, rfl, rfl, rfl, rfl⟩
      by_cases f3 : p3 = q3
      case neg =>
        cases p3 <;> cases q3 <;> first | exact absurd rfl f3 | (simp only [qea, Int.natCast_nonneg, Int.toNat_natCast, List.getElem?_map, Option.map_some, hxa, hxb, hi', f1, f2, Pr.r, Ev.exec, qb, qe, qc, qaw, qai, Ev.evs, Ev.Opnd.ev, Ev.Env.get, Ev.Env.set, Ev.Env.unset, Ev.look, qf, qv, Ev.AV.cells, qo, Ev.AV.plain, qbe, ql, qs, Ev.keep, qg, List.length_map, ↓qn, Ev.it1, ↓reduceIte, List.length_cons, List.length_nil, List.getElem?_cons_zero, List.getElem?_cons_succ, List.take_succ_cons, List.take_zero, zfe, List.drop_succ_cons, List.drop_zero, List.drop_nil, List.cons_append, List.nil_append, List.append_nil, List.set_cons_zero, List.set_cons_succ, List.head?_cons, Nat.reduceAdd, Nat.reduceEqDiff, decide_true, decide_false, zfc, zfa, and_self, and_true, ne_eq, zfb, not_true_eq_false, zff, zfd, Nat.add_zero, Nat.le_refl, eq_self]; exact ⟨_, rfl, rfl, rfl, rfl, rfl⟩)
      have f4 : ¬ p4 = q4 := fun h => hp ⟨f1, f2, f3, h⟩
      simp only [f4, decide_false] at hv
      subst f3
      cases p3 <;> (simp only [qea, Int.natCast_nonneg, Int.toNat_natCast, List.getElem?_map, Option.map_some, hxa, hxb, hi', f1, f2, hv, qw, Pr.r, Ev.exec, qb, qe, qc, qaw, qai, Ev.evs, Ev.Opnd.ev, Ev.Env.get, Ev.Env.set, Ev.look, qf, qv, Ev.AV.cells, qo, Ev.AV.plain, qbe, ql, qm, qh, qd, List.length_map, ↓qn, Ev.it1, ↓reduceIte, List.length_cons, List.length_nil, List.getElem?_cons_zero, List.getElem?_cons_succ, List.take_succ_cons, List.take_zero, zfe, List.drop_succ_cons, List.drop_zero, List.drop_nil, List.cons_append, List.nil_append, List.append_nil, List.set_cons_zero, List.set_cons_succ, List.head?_cons, Nat.reduceAdd, Nat.reduceEqDiff, decide_true, decide_false, zfc, Bool.not_true, Bool.not_false, zfa, and_self, ne_eq, zfb, not_true_eq_false, zff, zfd, Nat.add_zero, Nat.le_refl, eq_self, beq_self_eq_true]; exact ⟨_, rfl, rfl, rfl, rfl, rfl⟩)
    · rw [hzl]
      simp only [qea, Int.lt_irrefl, Ev.exec, qb, qe, qc, qai, Ev.Opnd.ev, Ev.Env.get, Ev.Env.set, Ev.look, qf, qv, ql, List.length_map, ↓qn, Ev.it1, ↓reduceIte, List.drop_succ_cons, List.drop_zero, List.head?_cons, Nat.reduceEqDiff, decide_false, zfa, eq_self]
      exact ⟨_, rfl, rfl, rfl, rfl⟩
  obtain ⟨⟨y, e, σ⟩, k1, k2⟩ := hL
  simp only at k2
  rcases k2 with ⟨k3, rfl, k4, rfl⟩ | ⟨k3, x, _, rfl, k4, rfl, k5⟩
  · have : ap = bp := (qmj hab).1 k3
    subst this
    simp only [qer, k1, k4, qae, beq_self_eq_true, and_self, decide_true, qj, Ev.exec, qb, qe, qc, qai, Ev.Opnd.ev, Ev.Env.get, Ev.Env.set, Ev.look, qk, qf, qv, Ev.AV.cells, qo, Ev.AV.plain, qbe, qhe, qi, qq, qaj, Ev.kill, qag, qs, Ev.keep, qal, qaf, qg, qbb, qm, qbm, qh, qd, qx, List.length_map, ↓qn, ↓qa3, ↓reduceIte, List.length_cons, List.length_nil, List.take_succ_cons, List.take_zero, zfe, List.drop_succ_cons, List.drop_zero, List.head?_cons, Nat.reduceAdd, Nat.reduceEqDiff, Nat.reduceLeDiff, reduceCtorEq, decide_true, decide_false, zfc, Bool.not_true, zfa, and_self, ne_eq, zfb, not_true_eq_false, zff, zfd, eq_self, beq_self_eq_true]
  · have : ¬ ap = bp := fun h => by rw [(qmj hab).2 h] at k3; cases k3
    simp only [this]
    simp only [qer, hab', k1, k4, k5, qae, beq_self_eq_true, and_false, decide_false, qj, Ev.exec, qb, qe, qc, qai, Ev.Opnd.ev, Ev.Env.get, Ev.Env.set, Ev.look, qk, qf, qv, Ev.AV.cells, qo, Ev.AV.plain, qbe, qhe, qi, qq, qaj, Ev.kill, qag, qs, Ev.keep, qal, qaf, qg, qbb, qm, qbm, qh, qd, qx, List.length_map, ↓qn, ↓qa3, ↓reduceIte, List.length_cons, List.length_nil, List.take_succ_cons, List.take_zero, zfe, List.drop_succ_cons, List.drop_zero, List.head?_cons, Nat.reduceAdd, Nat.reduceEqDiff, Nat.reduceLeDiff, reduceCtorEq, decide_false, zfc, Bool.not_true, zfa, and_self, and_true, ne_eq, zfb, not_true_eq_false, zff, zfd, eq_self, beq_self_eq_true, and_false]
end
def lpF (x : Lp × Bool) : List AV := [(ii x.1.r0), (ii x.1.r1), (.fsl ((x.1.procs).map Pr.r) x.2), (ii x.1.sum)]
theorem lpF_lo (n : Nat) (x : Lp × Bool) : los n (lpF x) = true := by simp only [lpF, qae, qbb, qm, qh, qd, zfc, eq_self]
theorem lpF_pl (x : Lp × Bool) : (lpF x).length = 4 ∧ qo (lpF x) = true := ⟨rfl, rfl⟩
theorem qt1 (n : Nat) (l : List (Lp × Bool)) : qiu n (l.map lpF) = true := qkh (lpF_lo n) l
theorem lpFs_ok (l : List (Lp × Bool)) : qcd 4 (l.map lpF) = true := qkt lpF_pl l
section
variable (a b : List (Lp × Bool)) (c d : Bool)
end
set_option maxRecDepth 10000
section
variable (a b : Lp)
end
set_option maxRecDepth 10000
theorem qzf (l : List Int) (c : Bool) (n : Int) (h : l.length ≤ 100000) : qa4 (evL T) qhu [(.fsl ((l).map qby) c), (ii n)] = some (.fsl ((l ++ [n]).map qby) false) := by
  have h' : (l.length + 1) * 8 ≤ 140737488355328 := by omega
  have h2 : l.length * 8 ≤ 140737488355328 := by omega
  have htl : List.take l.length (l.map qby) = l.map qby := List.take_of_length_le (by simp)
  have htk : ∀ e : List AV, List.take (l.length + 1) (l.map qby ++ [e]) = l.map qby ++ [e] := fun e => List.take_of_length_le (by simp)
  have hr : (l ++ [n]).map qby = l.map qby ++ [[(ii n)]] := by rw [List.map_append]; rfl
  rw [qa4, qad qxt qvp]
  rw [hr]
  simp only [qlz, h', h2, htl, htk, qjk, q73, qw, qj, Ev.exec, qb, qe, qc, qai, qm4, Ev.Opnd.ev, Ev.Env.get, Ev.Env.set, Ev.look, qk, qbq, qfm, Ev.AV.cells, Ev.AV.uc, qo, Ev.AV.plain, qi, qq, qaj, Ev.kill, qag, qg, qbb, qds, qh, qd, qu, qak, qbc, qbg, qhg, qe3, List.replicate_one, List.replicate_zero, List.length_map, ↓qn, ↓reduceIte, List.length_cons, List.length_nil, List.length_append, List.getElem?_cons_zero, List.take_zero, List.drop_zero, List.nil_append, List.set_cons_zero, Nat.reduceAdd, Nat.reduceEqDiff, Nat.reduceMul, Nat.reduceLT, Nat.reduceLeDiff, Nat.reducePow, reduceCtorEq, decide_true, decide_false, zfc, zfa, and_self, and_true, ne_eq, zfb, not_true_eq_false, zff, zfd, Nat.lt_add_one, Nat.le_refl, eq_self, and_false]
theorem qne (l : List (List Int)) (k : List Int) (c : Bool) (h : l.length ≤ 1000) : qa4 (evL T) qd9 [(.fsl ((l).map qep) c), (.fsl ((k).map qby) false)] = some (.fsl ((l ++ [k]).map qep) false) := by
  have h' : (l.length + 1) * 24 ≤ 140737488355328 := by omega
  have h2 : l.length * 24 ≤ 140737488355328 := by omega
  have htl : List.take l.length (l.map qep) = l.map qep := List.take_of_length_le (by simp)
  have htk : ∀ e : List AV, List.take (l.length + 1) (l.map qep ++ [e]) = l.map qep ++ [e] := fun e => List.take_of_length_le (by simp)
  have hr : (l ++ [k]).map qep = l.map qep ++ [[(.fsl ((k).map qby) false)]] := by rw [List.map_append]; rfl
  rw [qa4, qad qr2 qq7]
  rw [hr]
  simp only [qjh, h', h2, htl, htk, qjk, keys_ok, qbn, qw, qj, Ev.exec, qb, qe, qc, qai, qm4, Ev.Opnd.ev, Ev.Env.get, Ev.Env.set, Ev.look, qk, qbq, qfm, Ev.AV.cells, Ev.AV.uc, qo, Ev.AV.plain, qi, qq, qaj, Ev.kill, qag, qg, qm, qds, qh, qd, qu, qak, qbc, qbg, qhg, qe3, List.replicate_one, List.replicate_zero, List.length_map, ↓qn, ↓reduceIte, List.length_cons, List.length_nil, List.length_append, List.getElem?_cons_zero, List.take_zero, List.drop_zero, List.nil_append, List.set_cons_zero, Nat.reduceAdd, Nat.reduceEqDiff, Nat.reduceMul, Nat.reduceLT, Nat.reduceLeDiff, Nat.reducePow, reduceCtorEq, decide_true, decide_false, zfc, zfa, and_self, and_true, ne_eq, zfb, not_true_eq_false, zff, zfd, Nat.lt_add_one, Nat.le_refl, eq_self, and_false]
section
variable (x : Ex)
theorem qdn (h : x.procs.length ≤ 1000) (i : Nat) (hi : i < x.procs.length) (q : Pr) : qa4 (evL T) qd3 [(.agg [(ii x.r0), (ii x.r1), (.fsl ((x.procs).map Pr.r) false), (ii x.sum), (ii x.ev.time), (.fsl ((x.ev.key).map qby) false), (ii x.ev.lp), (ii x.ev.kind), (ii x.ev.proc), (ii x.ev.arg), (.fsl ((x.out).map Evt.r) false), (.fsl ((x.gone).map qep) false), (ii x.n), (bb x.over)]), (ii i), (.agg [(ii q.prog), (ii q.pc), (bb q.alive), (.fsl ((q.timer).map qby) false)])] = some (.agg [(ii ((x.setP i q).r0)), (ii ((x.setP i q).r1)), (.fsl (((x.setP i q).procs).map Pr.r) false), (ii ((x.setP i q).sum)), (ii ((x.setP i q).ev.time)), (.fsl (((x.setP i q).ev.key).map qby) false), (ii ((x.setP i q).ev.lp)), (ii ((x.setP i q).ev.kind)), (ii ((x.setP i q).ev.proc)), (ii ((x.setP i q).ev.arg)), (.fsl (((x.setP i q).out).map Evt.r) false), (.fsl (((x.setP i q).gone).map qep) false), (ii ((x.setP i q).n)), (bb ((x.setP i q).over))]) := by
  have h2 : x.procs.length * 48 ≤ 140737488355328 := by omega
  have htl : ∀ e : List AV, List.take x.procs.length ((x.procs.map Pr.r).set i e) = (x.procs.map Pr.r).set i e := fun e => List.take_of_length_le (by simp)
  have hset : (x.procs.map Pr.r).set i [(ii q.prog), (ii q.pc), (bb q.alive), (.fsl ((q.timer).map qby) false)] = (x.procs.set i q).map Pr.r := by rw [List.map_set]; rfl
  obtain ⟨q0, hq⟩ : ∃ q0, x.procs[i]? = some q0 := ⟨_, List.getElem?_eq_getElem hi⟩
  have ft : ∀ {τ : Type} (l : List τ) (f : τ → List AV), List.take l.length (l.map f) = l.map f := fun l f => List.take_of_length_le (by simp)
  have htl2 : List.take x.procs.length ((x.procs.set i q).map Pr.r) = (x.procs.set i q).map Pr.r := List.take_of_length_le (by simp)
  unfold Ex.setP
  rw [qa4, qad q0p qy7]
  simp only [qoz, htl2, h2, hi, hq, hset, q0k, Pr.r, Int.natCast_nonneg, Int.toNat_natCast, List.getElem?_map, Option.map_some, qw, qae, qaa, qbn, Nat.reduceLT, Nat.reduceLeDiff, qj, Ev.exec, qb, qe, qc, qai, Ev.Opnd.ev, Ev.Env.get, Ev.Env.set, Ev.look, qk, qf, qbq, qv, qfm, Ev.AV.cells, Ev.AV.uc, qo, Ev.AV.plain, qi, qq, qaj, Ev.kill, qag, qg, qbb, qa2, qm, qh, qd, qx, List.length_set, List.replicate_zero, List.length_map, ↓qn, ↓reduceIte, List.length_cons, List.length_nil, List.getElem?_cons_zero, List.getElem?_cons_succ, List.take_succ_cons, List.take_zero, zfe, List.drop_succ_cons, List.drop_zero, List.drop_nil, List.cons_append, List.nil_append, List.append_nil, List.set_cons_zero, List.set_cons_succ, List.head?_cons, Nat.reduceAdd, Nat.reduceEqDiff, Nat.reduceMul, Nat.reduceLT, Nat.reduceLeDiff, Nat.reducePow, reduceCtorEq, zfc, zfa, and_self, ne_eq, zfb, not_true_eq_false, zff, zfd, Nat.add_zero, Nat.le_refl, eq_self, and_false]
theorem qjb (h : x.Small) (d : Int) (t0 lp k p a : Int) (ks : List Int) :
    qa4 (evL T) qed [(.agg [(ii x.r0), (ii x.r1), (.fsl ((x.procs).map Pr.r) false), (ii x.sum), (ii x.ev.time), (.fsl ((x.ev.key).map qby) false), (ii x.ev.lp), (ii x.ev.kind), (ii x.ev.proc), (ii x.ev.arg), (.fsl ((x.out).map Evt.r) false), (.fsl ((x.gone).map qep) false), (ii x.n), (bb x.over)]), (ii d), .agg [(ii t0), (.fsl ((ks).map qby) false), (ii lp), (ii k), (ii p), (ii a)]] = some (.tup [(.agg [(ii ((x.create d ⟨t0, ks, lp, k, p, a⟩).r0)), (ii ((x.create d ⟨t0, ks, lp, k, p, a⟩).r1)), (.fsl (((x.create d ⟨t0, ks, lp, k, p, a⟩).procs).map Pr.r) false), (ii ((x.create d ⟨t0, ks, lp, k, p, a⟩).sum)), (ii ((x.create d ⟨t0, ks, lp, k, p, a⟩).ev.time)), (.fsl (((x.create d ⟨t0, ks, lp, k, p, a⟩).ev.key).map qby) false), (ii ((x.create d ⟨t0, ks, lp, k, p, a⟩).ev.lp)), (ii ((x.create d ⟨t0, ks, lp, k, p, a⟩).ev.kind)), (ii ((x.create d ⟨t0, ks, lp, k, p, a⟩).ev.proc)), (ii ((x.create d ⟨t0, ks, lp, k, p, a⟩).ev.arg)), (.fsl (((x.create d ⟨t0, ks, lp, k, p, a⟩).out).map Evt.r) false), (.fsl (((x.create d ⟨t0, ks, lp, k, p, a⟩).gone).map qep) false), (ii ((x.create d ⟨t0, ks, lp, k, p, a⟩).n)), (bb ((x.create d ⟨t0, ks, lp, k, p, a⟩).over))]), (.fsl ((x.kid).map qby) false)]) := by
  have hk := qzf x.ev.key false x.n h.key
  have hs : (x.out.length + 1) * 64 ≤ 140737488355328 := by have := h.out; omega
  have hs2 : x.out.length * 64 ≤ 140737488355328 := by have := h.out; omega
  have htl : List.take x.out.length (x.out.map Evt.r) = x.out.map Evt.r := List.take_of_length_le (by simp)
  have htk : ∀ e : List AV, List.take (x.out.length + 1) (x.out.map Evt.r ++ [e]) = x.out.map Evt.r ++ [e] := fun e => List.take_of_length_le (by simp)
  unfold Ex.create Ex.kid
  rw [qa4, qad qvr qtt]
  by_cases ho : w64 (x.ev.time + d) > 1152921504606846976
  · have ho' : IntKind.i64.wrap (x.ev.time + d) > 1152921504606846976 := ho
    simp only [ho, if_true]
    simp only [qju, hk, ho', qw, qae, qaa, qbn, Nat.reduceLeDiff, qj, Ev.exec, qb, qe, qc, qaw, qai, Ev.evs, Ev.Opnd.ev, Ev.Env.get, Ev.Env.set, Ev.look, qk, qf, qv, Ev.AV.cells, Ev.AV.uc, qo, Ev.AV.plain, qao, qbh, qi, qq, qaj, Ev.kill, qag, qg, qbb, qa2, qb1, qm, qmh, Ev.AV.obj?, qh, qd, qx, ↓qn, ↓reduceIte, List.length_cons, List.length_nil, List.getElem?_cons_zero, List.getElem?_cons_succ, List.take_succ_cons, List.take_zero, zfe, List.drop_succ_cons, List.drop_zero, List.drop_nil, List.cons_append, List.nil_append, List.append_nil, List.set_cons_zero, List.set_cons_succ, List.head?_cons, Nat.reduceAdd, Nat.reduceEqDiff, Nat.reduceBEq, Nat.reduceLeDiff, reduceCtorEq, decide_true, zfc, Bool.not_false, zfa, and_self, ne_eq, zfb, zff, zfd, Nat.add_zero, Nat.le_refl, eq_self]
    done
  · have ho' : ¬ IntKind.i64.wrap (x.ev.time + d) > 1152921504606846976 := ho
    simp only [ho, if_false]
    have hr : ∀ e : Evt, (x.out ++ [e]).map Evt.r = x.out.map Evt.r ++ [e.r] := fun e => by rw [List.map_append]; rfl
    simp only [qju, hk, ho', hs, hs2, htl, htk, hr, qjk, qe1, Evt.r, qw, qae, qaa, qbn, Nat.reduceLT, Nat.reduceLeDiff, qj, Ev.exec, qb, qe, qc, qaw, qai, qm4, Ev.evs, Ev.Opnd.ev, Ev.Env.get, Ev.Env.set, Ev.look, qk, qf, qbq, qv, qfm, Ev.AV.cells, Ev.AV.uc, qo, Ev.AV.plain, qao, qbh, qi, qq, qaj, Ev.kill, qag, qg, qbb, qa2, qb1, qm, qmh, Ev.AV.obj?, qh, qd, qu, qak, qbc, qbg, qx, List.replicate_one, List.replicate_zero, List.length_map, ↓qn, ↓reduceIte, List.length_cons, List.length_nil, List.length_append, List.getElem?_cons_zero, List.getElem?_cons_succ, List.take_succ_cons, List.take_zero, zfe, List.drop_succ_cons, List.drop_zero, List.drop_nil, List.cons_append, List.nil_append, List.append_nil, List.set_cons_zero, List.set_cons_succ, List.head?_cons, Nat.reduceAdd, Nat.reduceEqDiff, Nat.reduceBEq, Nat.reduceMul, Nat.reduceLT, Nat.reduceLeDiff, Nat.reducePow, reduceCtorEq, decide_true, decide_false, zfc, Bool.not_false, zfa, and_self, ne_eq, zfb, not_true_eq_false, zff, zfd, Nat.add_zero, Nat.lt_add_one, Nat.le_refl, eq_self, and_false]
    done
end
set_option maxRecDepth 10000
def Pr.inc (q : Pr) : Pr := { q with pc := w64 (q.pc + 1) }
section
variable (x : Ex) (i : Nat) (op : OpI) (q : Pr)
theorem q4w (h : x.Small) (hq : x.procs[i]? = some q) (h1 : op.code = 1) :
    qa4 (evL T) qcy [(.agg [(ii x.r0), (ii x.r1), (.fsl ((x.procs).map Pr.r) false), (ii x.sum), (ii x.ev.time), (.fsl ((x.ev.key).map qby) false), (ii x.ev.lp), (ii x.ev.kind), (ii x.ev.proc), (ii x.ev.arg), (.fsl ((x.out).map Evt.r) false), (.fsl ((x.gone).map qep) false), (ii x.n), (bb x.over)]), (ii i), (.agg [(ii op.code), (ii op.a), (ii op.b), (ii op.c)])] = some (.tup [(.agg [(ii (((x.create op.a ⟨0, [], x.ev.lp, 1, i, 0⟩).setP i q.inc).r0)), (ii (((x.create op.a ⟨0, [], x.ev.lp, 1, i, 0⟩).setP i q.inc).r1)), (.fsl ((((x.create op.a ⟨0, [], x.ev.lp, 1, i, 0⟩).setP i q.inc).procs).map Pr.r) false), (ii (((x.create op.a ⟨0, [], x.ev.lp, 1, i, 0⟩).setP i q.inc).sum)), (ii (((x.create op.a ⟨0, [], x.ev.lp, 1, i, 0⟩).setP i q.inc).ev.time)), (.fsl ((((x.create op.a ⟨0, [], x.ev.lp, 1, i, 0⟩).setP i q.inc).ev.key).map qby) false), (ii (((x.create op.a ⟨0, [], x.ev.lp, 1, i, 0⟩).setP i q.inc).ev.lp)), (ii (((x.create op.a ⟨0, [], x.ev.lp, 1, i, 0⟩).setP i q.inc).ev.kind)), (ii (((x.create op.a ⟨0, [], x.ev.lp, 1, i, 0⟩).setP i q.inc).ev.proc)), (ii (((x.create op.a ⟨0, [], x.ev.lp, 1, i, 0⟩).setP i q.inc).ev.arg)), (.fsl ((((x.create op.a ⟨0, [], x.ev.lp, 1, i, 0⟩).setP i q.inc).out).map Evt.r) false), (.fsl ((((x.create op.a ⟨0, [], x.ev.lp, 1, i, 0⟩).setP i q.inc).gone).map qep) false), (ii (((x.create op.a ⟨0, [], x.ev.lp, 1, i, 0⟩).setP i q.inc).n)), (bb (((x.create op.a ⟨0, [], x.ev.lp, 1, i, 0⟩).setP i q.inc).over))]), (bb true)]) := by
  have hl := (List.getElem?_eq_some_iff.1 hq).1
  have hc := qjb x h op.a 0 x.ev.lp 1 i 0 []
  have hp := qdn (x.create op.a ⟨0, [], x.ev.lp, 1, i, 0⟩) h.procs i hl q.inc
  simp only [List.map_nil, Pr.inc, w64] at hc hp ⊢
  rw [qa4, qad qc3 qcq]
  simp only [qc5, h1, hq, hc, hp, Pr.r, Int.natCast_nonneg, Int.toNat_natCast, List.getElem?_map, Option.map_some, qw, qae, qaa, qbn, Nat.reduceLeDiff, qj, Ev.exec, qb, qe, qc, qaw, qai, Ev.evs, Ev.Opnd.ev, Ev.Env.get, Ev.Env.set, Ev.look, qk, qf, qv, qfz, Ev.AV.cells, Ev.AV.uc, qo, Ev.AV.plain, qao, qar, qi, qq, qaj, Ev.kill, qag, qg, qbb, qa2, qb1, qm, qh, qd, qu, qx, ↓qn, ↓reduceIte, List.length_cons, List.length_nil, List.getElem?_cons_zero, List.getElem?_cons_succ, List.take_succ_cons, List.take_zero, zfe, List.drop_succ_cons, List.drop_zero, List.drop_nil, List.cons_append, List.nil_append, List.append_nil, List.set_cons_zero, List.set_cons_succ, List.head?_cons, Nat.reduceAdd, Nat.reduceEqDiff, Nat.reduceLeDiff, reduceCtorEq, decide_true, zfc, zfa, and_self, ne_eq, zfb, zff, zfd, Nat.add_zero, Nat.le_refl, eq_self]
theorem q5n (h : x.Small) (hq : x.procs[i]? = some q) (h1 : op.code = 2) :
    qa4 (evL T) qcy [(.agg [(ii x.r0), (ii x.r1), (.fsl ((x.procs).map Pr.r) false), (ii x.sum), (ii x.ev.time), (.fsl ((x.ev.key).map qby) false), (ii x.ev.lp), (ii x.ev.kind), (ii x.ev.proc), (ii x.ev.arg), (.fsl ((x.out).map Evt.r) false), (.fsl ((x.gone).map qep) false), (ii x.n), (bb x.over)]), (ii i), (.agg [(ii op.code), (ii op.a), (ii op.b), (ii op.c)])] = some (.tup [(.agg [(ii (((x.create op.c ⟨0, [], op.a, 3, 0, op.b⟩).setP i q.inc).r0)), (ii (((x.create op.c ⟨0, [], op.a, 3, 0, op.b⟩).setP i q.inc).r1)), (.fsl ((((x.create op.c ⟨0, [], op.a, 3, 0, op.b⟩).setP i q.inc).procs).map Pr.r) false), (ii (((x.create op.c ⟨0, [], op.a, 3, 0, op.b⟩).setP i q.inc).sum)), (ii (((x.create op.c ⟨0, [], op.a, 3, 0, op.b⟩).setP i q.inc).ev.time)), (.fsl ((((x.create op.c ⟨0, [], op.a, 3, 0, op.b⟩).setP i q.inc).ev.key).map qby) false), (ii (((x.create op.c ⟨0, [], op.a, 3, 0, op.b⟩).setP i q.inc).ev.lp)), (ii (((x.create op.c ⟨0, [], op.a, 3, 0, op.b⟩).setP i q.inc).ev.kind)), (ii (((x.create op.c ⟨0, [], op.a, 3, 0, op.b⟩).setP i q.inc).ev.proc)), (ii (((x.create op.c ⟨0, [], op.a, 3, 0, op.b⟩).setP i q.inc).ev.arg)), (.fsl ((((x.create op.c ⟨0, [], op.a, 3, 0, op.b⟩).setP i q.inc).out).map Evt.r) false), (.fsl ((((x.create op.c ⟨0, [], op.a, 3, 0, op.b⟩).setP i q.inc).gone).map qep) false), (ii (((x.create op.c ⟨0, [], op.a, 3, 0, op.b⟩).setP i q.inc).n)), (bb (((x.create op.c ⟨0, [], op.a, 3, 0, op.b⟩).setP i q.inc).over))]), (bb false)]) := by
  have hl := (List.getElem?_eq_some_iff.1 hq).1
  have hc := qjb x h op.c 0 op.a 3 0 op.b []
  have hp := qdn (x.create op.c ⟨0, [], op.a, 3, 0, op.b⟩) h.procs i hl q.inc
  simp only [List.map_nil, Pr.inc, w64] at hc hp ⊢
  have k1 : ¬ (2 : Int) = 1 := by decide
  rw [qa4, qad qc3 qcq]
  simp only [qc5, h1, k1, hq, hc, hp, Pr.r, Int.natCast_nonneg, Int.toNat_natCast, List.getElem?_map, Option.map_some, qw, qae, qaa, qbn, Nat.reduceLeDiff, qj, Ev.exec, qb, qe, qc, qaw, qai, Ev.evs, Ev.Opnd.ev, Ev.Env.get, Ev.Env.set, Ev.look, qk, qf, qv, qfz, Ev.AV.cells, Ev.AV.uc, qo, Ev.AV.plain, qao, qar, qi, qq, qaj, Ev.kill, qag, qg, qbb, qa2, qb1, qm, qh, qd, qu, qx, ↓qn, ↓reduceIte, List.length_cons, List.length_nil, List.getElem?_cons_zero, List.getElem?_cons_succ, List.take_succ_cons, List.take_zero, zfe, List.drop_succ_cons, List.drop_zero, List.drop_nil, List.cons_append, List.nil_append, List.append_nil, List.set_cons_zero, List.set_cons_succ, List.head?_cons, Nat.reduceAdd, Nat.reduceEqDiff, Nat.reduceLeDiff, reduceCtorEq, decide_true, decide_false, zfc, zfa, and_self, ne_eq, zfb, zff, zfd, Nat.add_zero, Nat.le_refl, eq_self]
theorem q3q (h : x.Small) (hg : x.gone.length < 1000) (hq : x.procs[i]? = some q) (h1 : op.code = 3) :
    qa4 (evL T) qcy [(.agg [(ii x.r0), (ii x.r1), (.fsl ((x.procs).map Pr.r) false), (ii x.sum), (ii x.ev.time), (.fsl ((x.ev.key).map qby) false), (ii x.ev.lp), (ii x.ev.kind), (ii x.ev.proc), (ii x.ev.arg), (.fsl ((x.out).map Evt.r) false), (.fsl ((x.gone).map qep) false), (ii x.n), (bb x.over)]), (ii i), (.agg [(ii op.code), (ii op.a), (ii op.b), (ii op.c)])] = some (.tup [(.agg [(ii (((({ x with gone := if 0 < q.timer.length then x.gone ++ [q.timer] else x.gone } : Ex).create op.a ⟨0, [], x.ev.lp, 2, i, op.b⟩).setP i { q.inc with timer := x.kid }).r0)), (ii (((({ x with gone := if 0 < q.timer.length then x.gone ++ [q.timer] else x.gone } : Ex).create op.a ⟨0, [], x.ev.lp, 2, i, op.b⟩).setP i { q.inc with timer := x.kid }).r1)), (.fsl ((((({ x with gone := if 0 < q.timer.length then x.gone ++ [q.timer] else x.gone } : Ex).create op.a ⟨0, [], x.ev.lp, 2, i, op.b⟩).setP i { q.inc with timer := x.kid }).procs).map Pr.r) false), (ii (((({ x with gone := if 0 < q.timer.length then x.gone ++ [q.timer] else x.gone } : Ex).create op.a ⟨0, [], x.ev.lp, 2, i, op.b⟩).setP i { q.inc with timer := x.kid }).sum)), (ii (((({ x with gone := if 0 < q.timer.length then x.gone ++ [q.timer] else x.gone } : Ex).create op.a ⟨0, [], x.ev.lp, 2, i, op.b⟩).setP i { q.inc with timer := x.kid }).ev.time)), (.fsl ((((({ x with gone := if 0 < q.timer.length then x.gone ++ [q.timer] else x.gone } : Ex).create op.a ⟨0, [], x.ev.lp, 2, i, op.b⟩).setP i { q.inc with timer := x.kid }).ev.key).map qby) false), (ii (((({ x with gone := if 0 < q.timer.length then x.gone ++ [q.timer] else x.gone } : Ex).create op.a ⟨0, [], x.ev.lp, 2, i, op.b⟩).setP i { q.inc with timer := x.kid }).ev.lp)), (ii (((({ x with gone := if 0 < q.timer.length then x.gone ++ [q.timer] else x.gone } : Ex).create op.a ⟨0, [], x.ev.lp, 2, i, op.b⟩).setP i { q.inc with timer := x.kid }).ev.kind)), (ii (((({ x with gone := if 0 < q.timer.length then x.gone ++ [q.timer] else x.gone } : Ex).create op.a ⟨0, [], x.ev.lp, 2, i, op.b⟩).setP i { q.inc with timer := x.kid }).ev.proc)), (ii (((({ x with gone := if 0 < q.timer.length then x.gone ++ [q.timer] else x.gone } : Ex).create op.a ⟨0, [], x.ev.lp, 2, i, op.b⟩).setP i { q.inc with timer := x.kid }).ev.arg)), (.fsl ((((({ x with gone := if 0 < q.timer.length then x.gone ++ [q.timer] else x.gone } : Ex).create op.a ⟨0, [], x.ev.lp, 2, i, op.b⟩).setP i { q.inc with timer := x.kid }).out).map Evt.r) false), (.fsl ((((({ x with gone := if 0 < q.timer.length then x.gone ++ [q.timer] else x.gone } : Ex).create op.a ⟨0, [], x.ev.lp, 2, i, op.b⟩).setP i { q.inc with timer := x.kid }).gone).map qep) false), (ii (((({ x with gone := if 0 < q.timer.length then x.gone ++ [q.timer] else x.gone } : Ex).create op.a ⟨0, [], x.ev.lp, 2, i, op.b⟩).setP i { q.inc with timer := x.kid }).n)), (bb (((({ x with gone := if 0 < q.timer.length then x.gone ++ [q.timer] else x.gone } : Ex).create op.a ⟨0, [], x.ev.lp, 2, i, op.b⟩).setP i { q.inc with timer := x.kid }).over))]), (bb false)]) := by
  have hl := (List.getElem?_eq_some_iff.1 hq).1
  have k1 : ¬ (3 : Int) = 1 := by decide
  have k2 : ¬ (3 : Int) = 2 := by decide
  have ha := qne x.gone q.timer false h.gone
  by_cases ht : 0 < q.timer.length
  · have ht' : (q.timer.length : Int) > 0 := by omega
    have hc := qjb { x with gone := x.gone ++ [q.timer] } ⟨h.procs, h.out, by simp; omega, h.key⟩ op.a 0 x.ev.lp 2 i op.b []
    have hp := qdn (({ x with gone := x.gone ++ [q.timer] } : Ex).create op.a ⟨0, [], x.ev.lp, 2, i, op.b⟩) h.procs i hl { q.inc with timer := x.kid }
    rw [if_pos ht]
    simp only [List.map_nil, Pr.inc, Ex.kid, w64] at hc hp ⊢
    rw [qa4, qad qc3 qcq]
    simp only [qc5, h1, k1, k2, ht', hq, hc, hp, ha, Pr.r, Int.natCast_nonneg, Int.toNat_natCast, List.getElem?_map, Option.map_some, qw, qae, qaa, qbn, Nat.reduceLeDiff, qj, Ev.exec, qb, qe, qc, qaw, qai, Ev.evs, Ev.Opnd.ev, Ev.Env.get, Ev.Env.set, Ev.look, qk, qf, qv, qfz, Ev.AV.cells, Ev.AV.uc, qo, Ev.AV.plain, qao, qar, qbh, qi, qq, qaj, Ev.kill, qag, qg, qbb, qa2, qb1, qm, qh, qd, qu, qx, List.length_map, ↓qn, ↓reduceIte, List.length_cons, List.length_nil, List.getElem?_cons_zero, List.getElem?_cons_succ, List.take_succ_cons, List.take_zero, zfe, List.drop_succ_cons, List.drop_zero, List.drop_nil, List.cons_append, List.nil_append, List.append_nil, List.set_cons_zero, List.set_cons_succ, List.head?_cons, Nat.reduceAdd, Nat.reduceEqDiff, Nat.reduceLeDiff, reduceCtorEq, decide_true, decide_false, zfc, zfa, and_self, ne_eq, zfb, zff, zfd, Nat.add_zero, Nat.le_refl, eq_self]
  · have ht' : ¬ (q.timer.length : Int) > 0 := by omega
    have hc := qjb x h op.a 0 x.ev.lp 2 i op.b []
    have hp := qdn (x.create op.a ⟨0, [], x.ev.lp, 2, i, op.b⟩) h.procs i hl { q.inc with timer := x.kid }
    rw [if_neg ht]
    simp only [List.map_nil, Pr.inc, Ex.kid, w64] at hc hp ⊢
    rw [qa4, qad qc3 qcq]
    simp only [qc5, h1, k1, k2, ht', hq, hc, hp, Pr.r, Int.natCast_nonneg, Int.toNat_natCast, List.getElem?_map, Option.map_some, qw, qae, qaa, qbn, Nat.reduceLeDiff, qj, Ev.exec, qb, qe, qc, qaw, qai, Ev.evs, Ev.Opnd.ev, Ev.Env.get, Ev.Env.set, Ev.look, qk, qf, qv, qfz, Ev.AV.cells, Ev.AV.uc, qo, Ev.AV.plain, qao, qar, qbh, qi, qq, qaj, Ev.kill, qag, qg, qbb, qa2, qb1, qm, qh, qd, qu, qx, List.length_map, ↓qn, ↓reduceIte, List.length_cons, List.length_nil, List.getElem?_cons_zero, List.getElem?_cons_succ, List.take_succ_cons, List.take_zero, zfe, List.drop_succ_cons, List.drop_zero, List.drop_nil, List.cons_append, List.nil_append, List.append_nil, List.set_cons_zero, List.set_cons_succ, List.head?_cons, Nat.reduceAdd, Nat.reduceEqDiff, Nat.reduceLeDiff, reduceCtorEq, decide_true, decide_false, zfc, zfa, and_self, ne_eq, zfb, zff, zfd, Nat.add_zero, Nat.le_refl, eq_self]
theorem q5p (h : x.Small) (hg : x.gone.length < 1000) (hq : x.procs[i]? = some q) (h1 : op.code = 4) :
    qa4 (evL T) qcy [(.agg [(ii x.r0), (ii x.r1), (.fsl ((x.procs).map Pr.r) false), (ii x.sum), (ii x.ev.time), (.fsl ((x.ev.key).map qby) false), (ii x.ev.lp), (ii x.ev.kind), (ii x.ev.proc), (ii x.ev.arg), (.fsl ((x.out).map Evt.r) false), (.fsl ((x.gone).map qep) false), (ii x.n), (bb x.over)]), (ii i), (.agg [(ii op.code), (ii op.a), (ii op.b), (ii op.c)])] = some (.tup [(.agg [(ii ((if 0 < q.timer.length then ({ x with gone := x.gone ++ [q.timer] } : Ex).setP i { q.inc with timer := [] } else x.setP i q.inc).r0)), (ii ((if 0 < q.timer.length then ({ x with gone := x.gone ++ [q.timer] } : Ex).setP i { q.inc with timer := [] } else x.setP i q.inc).r1)), (.fsl (((if 0 < q.timer.length then ({ x with gone := x.gone ++ [q.timer] } : Ex).setP i { q.inc with timer := [] } else x.setP i q.inc).procs).map Pr.r) false), (ii ((if 0 < q.timer.length then ({ x with gone := x.gone ++ [q.timer] } : Ex).setP i { q.inc with timer := [] } else x.setP i q.inc).sum)), (ii ((if 0 < q.timer.length then ({ x with gone := x.gone ++ [q.timer] } : Ex).setP i { q.inc with timer := [] } else x.setP i q.inc).ev.time)), (.fsl (((if 0 < q.timer.length then ({ x with gone := x.gone ++ [q.timer] } : Ex).setP i { q.inc with timer := [] } else x.setP i q.inc).ev.key).map qby) false), (ii ((if 0 < q.timer.length then ({ x with gone := x.gone ++ [q.timer] } : Ex).setP i { q.inc with timer := [] } else x.setP i q.inc).ev.lp)), (ii ((if 0 < q.timer.length then ({ x with gone := x.gone ++ [q.timer] } : Ex).setP i { q.inc with timer := [] } else x.setP i q.inc).ev.kind)), (ii ((if 0 < q.timer.length then ({ x with gone := x.gone ++ [q.timer] } : Ex).setP i { q.inc with timer := [] } else x.setP i q.inc).ev.proc)), (ii ((if 0 < q.timer.length then ({ x with gone := x.gone ++ [q.timer] } : Ex).setP i { q.inc with timer := [] } else x.setP i q.inc).ev.arg)), (.fsl (((if 0 < q.timer.length then ({ x with gone := x.gone ++ [q.timer] } : Ex).setP i { q.inc with timer := [] } else x.setP i q.inc).out).map Evt.r) false), (.fsl (((if 0 < q.timer.length then ({ x with gone := x.gone ++ [q.timer] } : Ex).setP i { q.inc with timer := [] } else x.setP i q.inc).gone).map qep) false), (ii ((if 0 < q.timer.length then ({ x with gone := x.gone ++ [q.timer] } : Ex).setP i { q.inc with timer := [] } else x.setP i q.inc).n)), (bb ((if 0 < q.timer.length then ({ x with gone := x.gone ++ [q.timer] } : Ex).setP i { q.inc with timer := [] } else x.setP i q.inc).over))]), (bb false)]) := by
  have hl := (List.getElem?_eq_some_iff.1 hq).1
  have k1 : ¬ (4 : Int) = 1 := by decide
  have k2 : ¬ (4 : Int) = 2 := by decide
  have k3 : ¬ (4 : Int) = 3 := by decide
  have ha := qne x.gone q.timer false h.gone
  by_cases ht : 0 < q.timer.length
  · have ht' : (q.timer.length : Int) > 0 := by omega
    have hp := qdn { x with gone := x.gone ++ [q.timer] } h.procs i hl { q.inc with timer := [] }
    rw [if_pos ht]
    simp only [List.map_nil, Pr.inc, w64] at hp ⊢
    rw [qa4, qad qc3 qcq]
    simp only [qc5, h1, k1, k2, k3, ht', hq, hp, ha, Pr.r, Int.natCast_nonneg, Int.toNat_natCast, List.getElem?_map, Option.map_some, qw, qae, qaa, qbn, Nat.reduceLeDiff, qj, Ev.exec, qb, qe, qc, qaw, qai, Ev.evs, Ev.Opnd.ev, Ev.Env.get, Ev.Env.set, Ev.look, qk, qf, qv, Ev.AV.cells, Ev.AV.uc, qo, Ev.AV.plain, qao, qar, qbh, qi, qq, qaj, Ev.kill, qag, qg, qbb, qa2, qb1, qm, qh, qd, qu, qx, List.length_map, ↓qn, ↓reduceIte, List.length_cons, List.length_nil, List.getElem?_cons_zero, List.getElem?_cons_succ, List.take_succ_cons, List.take_zero, zfe, List.drop_succ_cons, List.drop_zero, List.drop_nil, List.cons_append, List.nil_append, List.append_nil, List.set_cons_zero, List.set_cons_succ, List.head?_cons, Nat.reduceAdd, Nat.reduceEqDiff, Nat.reduceLeDiff, reduceCtorEq, decide_true, decide_false, zfc, zfa, and_self, ne_eq, zfb, zff, zfd, Nat.add_zero, Nat.le_refl, eq_self]
  · have ht' : ¬ (q.timer.length : Int) > 0 := by omega
    have hp := qdn x h.procs i hl q.inc
    rw [if_neg ht]
    simp only [Pr.inc, w64] at hp ⊢
    rw [qa4, qad qc3 qcq]
    simp only [qc5, h1, k1, k2, k3, ht', hq, hp, Pr.r, Int.natCast_nonneg, Int.toNat_natCast, List.getElem?_map, Option.map_some, qw, qae, qaa, qbn, Nat.reduceLeDiff, qj, Ev.exec, qb, qe, qc, qaw, qai, Ev.evs, Ev.Opnd.ev, Ev.Env.get, Ev.Env.set, Ev.look, qk, qf, qv, Ev.AV.cells, Ev.AV.uc, qo, Ev.AV.plain, qao, qar, qbh, qi, qq, qaj, Ev.kill, qag, qg, qbb, qa2, qb1, qm, qh, qd, qx, List.length_map, ↓qn, ↓reduceIte, List.length_cons, List.length_nil, List.getElem?_cons_zero, List.getElem?_cons_succ, List.take_succ_cons, List.take_zero, zfe, List.drop_succ_cons, List.drop_zero, List.drop_nil, List.cons_append, List.nil_append, List.append_nil, List.set_cons_zero, List.set_cons_succ, List.head?_cons, Nat.reduceAdd, Nat.reduceEqDiff, Nat.reduceLeDiff, reduceCtorEq, decide_true, decide_false, zfc, zfa, and_self, ne_eq, zfb, zff, zfd, Nat.add_zero, Nat.le_refl, eq_self]
theorem q3o (h : x.Small) (hq : x.procs[i]? = some q) (h1 : op.code = 5) :
    qa4 (evL T) qcy [(.agg [(ii x.r0), (ii x.r1), (.fsl ((x.procs).map Pr.r) false), (ii x.sum), (ii x.ev.time), (.fsl ((x.ev.key).map qby) false), (ii x.ev.lp), (ii x.ev.kind), (ii x.ev.proc), (ii x.ev.arg), (.fsl ((x.out).map Evt.r) false), (.fsl ((x.gone).map qep) false), (ii x.n), (bb x.over)]), (ii i), (.agg [(ii op.code), (ii op.a), (ii op.b), (ii op.c)])] = some (.tup [(.agg [(ii (((x.setP i q.inc).spawnE op).r0)), (ii (((x.setP i q.inc).spawnE op).r1)), (.fsl ((((x.setP i q.inc).spawnE op).procs).map Pr.r) false), (ii (((x.setP i q.inc).spawnE op).sum)), (ii (((x.setP i q.inc).spawnE op).ev.time)), (.fsl ((((x.setP i q.inc).spawnE op).ev.key).map qby) false), (ii (((x.setP i q.inc).spawnE op).ev.lp)), (ii (((x.setP i q.inc).spawnE op).ev.kind)), (ii (((x.setP i q.inc).spawnE op).ev.proc)), (ii (((x.setP i q.inc).spawnE op).ev.arg)), (.fsl ((((x.setP i q.inc).spawnE op).out).map Evt.r) false), (.fsl ((((x.setP i q.inc).spawnE op).gone).map qep) false), (ii (((x.setP i q.inc).spawnE op).n)), (bb (((x.setP i q.inc).spawnE op).over))]), (bb false)]) := by
  have hl := (List.getElem?_eq_some_iff.1 hq).1
  have k1 : ¬ (5 : Int) = 1 := by decide
  have k2 : ¬ (5 : Int) = 2 := by decide
  have k3 : ¬ (5 : Int) = 3 := by decide
  have k4 : ¬ (5 : Int) = 4 := by decide
  have hp := qdn x h.procs i hl q.inc
  have hls : (x.procs.set i q.inc).length = x.procs.length := by simp
  unfold Ex.spawnE
  by_cases hs : x.procs.length < 8
  · have hs' : ¬ (x.procs.length : Int) ≥ 8 := by omega
    have h2 : x.procs.length * 48 ≤ 140737488355328 := by omega
    have h3 : (x.procs.length + 1) * 48 ≤ 140737488355328 := by omega
    rw [if_pos (by simp only [Ex.setP, hls]; exact hs)]
    have hc := qjb { x with procs := x.procs.set i q.inc ++ [⟨op.a, 0, true, []⟩] } ⟨by simp; omega, h.out, h.gone, h.key⟩ op.b 0 x.ev.lp 1 x.procs.length 0 []
    have htk : ∀ e : List AV, List.take (x.procs.length + 1) ((x.procs.set i q.inc).map Pr.r ++ [e]) = (x.procs.set i q.inc).map Pr.r ++ [e] := fun e => List.take_of_length_le (by simp)
    have htl : List.take x.procs.length ((x.procs.set i q.inc).map Pr.r) = (x.procs.set i q.inc).map Pr.r := List.take_of_length_le (by simp)
    simp only [Ex.setP, Ex.ownE, hls] at hp ⊢
    generalize x.procs.set i q.inc = l at *
    simp only [List.map_nil, List.map_append, List.map_cons, Pr.inc, Pr.r, w64] at hc hp ⊢
    rw [qa4, qad qc3 qcq]
    simp only [qc5, h1, k1, k2, k3, k4, h2, h3, hs', hls, hq, hc, hp, htl, htk, q0k, Pr.r, qjk, Int.natCast_nonneg, Int.toNat_natCast, List.getElem?_map, Option.map_some, qw, qae, qaa, qbn, Nat.reduceLT, Nat.reduceLeDiff, qj, Ev.exec, qb, qe, qc, qaw, qai, qm4, Ev.evs, Ev.Opnd.ev, Ev.Env.get, Ev.Env.set, Ev.look, qk, qf, qbq, qv, qfz, qfm, Ev.AV.cells, Ev.AV.uc, qo, Ev.AV.plain, qao, qar, qbu, qi, qq, qaj, Ev.kill, qag, qg, qbb, qa2, qb1, qm, qh, qd, qu, qak, qbc, qbg, qx, List.replicate_one, List.replicate_zero, List.length_map, ↓qn, ↓reduceIte, List.length_cons, List.length_nil, List.length_append, List.getElem?_cons_zero, List.getElem?_cons_succ, List.take_succ_cons, List.take_zero, zfe, List.drop_succ_cons, List.drop_zero, List.drop_nil, List.cons_append, List.nil_append, List.append_nil, List.set_cons_zero, List.set_cons_succ, List.head?_cons, Nat.reduceAdd, Nat.reduceEqDiff, Nat.reduceMul, Nat.reduceLT, Nat.reduceLeDiff, Nat.reducePow, reduceCtorEq, decide_true, decide_false, zfc, zfa, and_self, ne_eq, zfb, not_true_eq_false, zff, zfd, Nat.add_zero, Nat.lt_add_one, Nat.le_refl, eq_self, and_false]
  · have hs' : (x.procs.length : Int) ≥ 8 := by omega
    rw [if_neg (by simp only [Ex.setP, hls]; exact hs)]
    simp only [Ex.setP] at hp ⊢
    generalize x.procs.set i q.inc = l at *
    simp only [Pr.inc, w64] at hp ⊢
    rw [qa4, qad qc3 qcq]
    simp only [qc5, h1, k1, k2, k3, k4, hs', hls, hq, hp, Pr.r, Int.natCast_nonneg, Int.toNat_natCast, List.getElem?_map, Option.map_some, qw, qae, qaa, qbn, Nat.reduceLeDiff, qj, Ev.exec, qb, qe, qc, qaw, qai, Ev.evs, Ev.Opnd.ev, Ev.Env.get, Ev.Env.set, Ev.look, qk, qf, qv, Ev.AV.cells, Ev.AV.uc, qo, Ev.AV.plain, qao, qar, qbu, qi, qq, qaj, Ev.kill, qag, qg, qbb, qa2, qb1, qm, qh, qd, qx, List.length_map, ↓qn, ↓reduceIte, List.length_cons, List.length_nil, List.getElem?_cons_zero, List.getElem?_cons_succ, List.take_succ_cons, List.take_zero, zfe, List.drop_succ_cons, List.drop_zero, List.drop_nil, List.cons_append, List.nil_append, List.append_nil, List.set_cons_zero, List.set_cons_succ, List.head?_cons, Nat.reduceAdd, Nat.reduceEqDiff, Nat.reduceLeDiff, reduceCtorEq, decide_true, decide_false, zfc, zfa, and_self, ne_eq, zfb, zff, zfd, Nat.add_zero, Nat.le_refl, eq_self]
theorem q7t (h : x.Small) (hq : x.procs[i]? = some q) (h1 : op.code = 6) (h0 : op.a = 0 ∨ op.a = 1) :
    qa4 (evL T) qcy [(.agg [(ii x.r0), (ii x.r1), (.fsl ((x.procs).map Pr.r) false), (ii x.sum), (ii x.ev.time), (.fsl ((x.ev.key).map qby) false), (ii x.ev.lp), (ii x.ev.kind), (ii x.ev.proc), (ii x.ev.arg), (.fsl ((x.out).map Evt.r) false), (.fsl ((x.gone).map qep) false), (ii x.n), (bb x.over)]), (ii i), (.agg [(ii op.code), (ii op.a), (ii op.b), (ii op.c)])] = some (.tup [(.agg [(ii (((x.setReg op.a (w64 (x.reg op.a + op.b))).setP i q.inc).r0)), (ii (((x.setReg op.a (w64 (x.reg op.a + op.b))).setP i q.inc).r1)), (.fsl ((((x.setReg op.a (w64 (x.reg op.a + op.b))).setP i q.inc).procs).map Pr.r) false), (ii (((x.setReg op.a (w64 (x.reg op.a + op.b))).setP i q.inc).sum)), (ii (((x.setReg op.a (w64 (x.reg op.a + op.b))).setP i q.inc).ev.time)), (.fsl ((((x.setReg op.a (w64 (x.reg op.a + op.b))).setP i q.inc).ev.key).map qby) false), (ii (((x.setReg op.a (w64 (x.reg op.a + op.b))).setP i q.inc).ev.lp)), (ii (((x.setReg op.a (w64 (x.reg op.a + op.b))).setP i q.inc).ev.kind)), (ii (((x.setReg op.a (w64 (x.reg op.a + op.b))).setP i q.inc).ev.proc)), (ii (((x.setReg op.a (w64 (x.reg op.a + op.b))).setP i q.inc).ev.arg)), (.fsl ((((x.setReg op.a (w64 (x.reg op.a + op.b))).setP i q.inc).out).map Evt.r) false), (.fsl ((((x.setReg op.a (w64 (x.reg op.a + op.b))).setP i q.inc).gone).map qep) false), (ii (((x.setReg op.a (w64 (x.reg op.a + op.b))).setP i q.inc).n)), (bb (((x.setReg op.a (w64 (x.reg op.a + op.b))).setP i q.inc).over))]), (bb false)]) := by
  have hl := (List.getElem?_eq_some_iff.1 hq).1
  have k1 : ¬ (6 : Int) = 1 := by decide
  have k2 : ¬ (6 : Int) = 2 := by decide
  have k3 : ¬ (6 : Int) = 3 := by decide
  have k4 : ¬ (6 : Int) = 4 := by decide
  have k5 : ¬ (6 : Int) = 5 := by decide
  have k6 : ¬ (1 : Int) = 0 := by decide
  rcases h0 with h0 | h0
  · have hp := qdn { x with r0 := w64 (x.r0 + op.b) } h.procs i hl q.inc
    simp only [Ex.setReg, Ex.reg, h0, if_true]
    simp only [Pr.inc, w64] at hp ⊢
    rw [qa4, qad qc3 qcq]
    simp only [qc5, h1, k1, k2, k3, k4, k5, hq, hp, Pr.r, Int.natCast_nonneg, Int.toNat_natCast, List.getElem?_map, Option.map_some, qw, qae, qaa, qbn, Nat.reduceLT, Nat.reduceLeDiff, qj, Ev.exec, qb, qe, qc, qaw, qai, Ev.evs, Ev.Opnd.ev, Ev.Env.get, Ev.Env.set, Ev.look, qk, qf, qv, Ev.AV.cells, Ev.AV.uc, qo, Ev.AV.plain, qao, qar, qi, qq, qaj, Ev.kill, qag, qg, qbb, qa2, qb1, qm, qh, qd, qx, ↓qn, ↓reduceIte, List.length_cons, List.length_nil, List.getElem?_cons_zero, List.getElem?_cons_succ, List.take_succ_cons, List.take_zero, zfe, List.drop_succ_cons, List.drop_zero, List.drop_nil, List.cons_append, List.nil_append, List.append_nil, List.set_cons_zero, List.set_cons_succ, List.head?_cons, Nat.reduceAdd, Nat.reduceEqDiff, Nat.reduceMul, Nat.reduceLT, Nat.reduceLeDiff, Int.reduceLE, Int.reduceToNat, reduceCtorEq, decide_true, decide_false, zfc, zfa, and_self, ne_eq, zfb, zff, zfd, Nat.add_zero, Nat.le_refl, eq_self]
  · have hp := qdn { x with r1 := w64 (x.r1 + op.b) } h.procs i hl q.inc
    simp only [Ex.setReg, Ex.reg, h0, k6, if_false]
    simp only [Pr.inc, w64] at hp ⊢
    rw [qa4, qad qc3 qcq]
    simp only [qc5, h1, k1, k2, k3, k4, k5, hq, hp, Pr.r, Int.natCast_nonneg, Int.toNat_natCast, List.getElem?_map, Option.map_some, qw, qae, qaa, qbn, Nat.reduceLeDiff, qj, Ev.exec, qb, qe, qc, qaw, qai, Ev.evs, Ev.Opnd.ev, Ev.Env.get, Ev.Env.set, Ev.look, qk, qf, qv, Ev.AV.cells, Ev.AV.uc, qo, Ev.AV.plain, qao, qar, qi, qq, qaj, Ev.kill, qag, qg, qbb, qa2, qb1, qm, qh, qd, qx, ↓qn, ↓reduceIte, List.length_cons, List.length_nil, List.getElem?_cons_zero, List.getElem?_cons_succ, List.take_succ_cons, List.take_zero, zfe, List.drop_succ_cons, List.drop_zero, List.drop_nil, List.cons_append, List.nil_append, List.append_nil, List.set_cons_zero, List.set_cons_succ, List.head?_cons, Nat.reduceAdd, Nat.reduceEqDiff, Nat.reduceMul, Nat.reduceLeDiff, Int.reduceLE, Int.reduceToNat, reduceCtorEq, decide_true, decide_false, zfc, zfa, and_self, ne_eq, zfb, zff, zfd, Nat.add_zero, Nat.lt_add_one, Nat.le_refl, eq_self]
theorem q50 (h : x.Small) (hq : x.procs[i]? = some q) (h1 : op.code = 7) (h0 : op.a = 0 ∨ op.a = 1) :
    qa4 (evL T) qcy [(.agg [(ii x.r0), (ii x.r1), (.fsl ((x.procs).map Pr.r) false), (ii x.sum), (ii x.ev.time), (.fsl ((x.ev.key).map qby) false), (ii x.ev.lp), (ii x.ev.kind), (ii x.ev.proc), (ii x.ev.arg), (.fsl ((x.out).map Evt.r) false), (.fsl ((x.gone).map qep) false), (ii x.n), (bb x.over)]), (ii i), (.agg [(ii op.code), (ii op.a), (ii op.b), (ii op.c)])] = some (.tup [(.agg [(ii ((x.setP i (if x.reg op.a < op.b then { q.inc with pc := op.c } else q.inc)).r0)), (ii ((x.setP i (if x.reg op.a < op.b then { q.inc with pc := op.c } else q.inc)).r1)), (.fsl (((x.setP i (if x.reg op.a < op.b then { q.inc with pc := op.c } else q.inc)).procs).map Pr.r) false), (ii ((x.setP i (if x.reg op.a < op.b then { q.inc with pc := op.c } else q.inc)).sum)), (ii ((x.setP i (if x.reg op.a < op.b then { q.inc with pc := op.c } else q.inc)).ev.time)), (.fsl (((x.setP i (if x.reg op.a < op.b then { q.inc with pc := op.c } else q.inc)).ev.key).map qby) false), (ii ((x.setP i (if x.reg op.a < op.b then { q.inc with pc := op.c } else q.inc)).ev.lp)), (ii ((x.setP i (if x.reg op.a < op.b then { q.inc with pc := op.c } else q.inc)).ev.kind)), (ii ((x.setP i (if x.reg op.a < op.b then { q.inc with pc := op.c } else q.inc)).ev.proc)), (ii ((x.setP i (if x.reg op.a < op.b then { q.inc with pc := op.c } else q.inc)).ev.arg)), (.fsl (((x.setP i (if x.reg op.a < op.b then { q.inc with pc := op.c } else q.inc)).out).map Evt.r) false), (.fsl (((x.setP i (if x.reg op.a < op.b then { q.inc with pc := op.c } else q.inc)).gone).map qep) false), (ii ((x.setP i (if x.reg op.a < op.b then { q.inc with pc := op.c } else q.inc)).n)), (bb ((x.setP i (if x.reg op.a < op.b then { q.inc with pc := op.c } else q.inc)).over))]), (bb false)]) := by
  have hl := (List.getElem?_eq_some_iff.1 hq).1
  have k1 : ¬ (7 : Int) = 1 := by decide
  have k2 : ¬ (7 : Int) = 2 := by decide
  have k3 : ¬ (7 : Int) = 3 := by decide
  have k4 : ¬ (7 : Int) = 4 := by decide
  have k5 : ¬ (7 : Int) = 5 := by decide
  have k5' : ¬ (7 : Int) = 6 := by decide
  have k6 : ¬ (1 : Int) = 0 := by decide
  by_cases hr : x.reg op.a < op.b
  · have hp := qdn x h.procs i hl { q.inc with pc := op.c }
    simp only [Pr.inc, w64] at hp
    rw [if_pos hr]
    rw [qa4, qad qc3 qcq]
    rcases h0 with h0 | h0 <;> simp only [Ex.reg, h0, k6, if_true, if_false] at hr <;>
    simp only [qc5, h0, h1, k1, k2, k3, k4, k5, k5', hr, hq, hp, Pr.inc, w64, Pr.r, Int.natCast_nonneg, Int.toNat_natCast, List.getElem?_map, Option.map_some, qw, qae, qaa, qbn, Nat.reduceLT, Nat.reduceLeDiff, qj, Ev.exec, qb, qe, qc, qaw, qai, Ev.evs, Ev.Opnd.ev, Ev.Env.get, Ev.Env.set, Ev.look, qk, qf, qv, Ev.AV.cells, Ev.AV.uc, qo, Ev.AV.plain, qao, qar, ql, qi, qq, qaj, Ev.kill, qag, qg, qbb, qa2, qb1, qm, qh, qd, qx, ↓qn, ↓reduceIte, List.length_cons, List.length_nil, List.getElem?_cons_zero, List.getElem?_cons_succ, List.take_succ_cons, List.take_zero, zfe, List.drop_succ_cons, List.drop_zero, List.drop_nil, List.cons_append, List.nil_append, List.append_nil, List.set_cons_zero, List.set_cons_succ, List.head?_cons, Nat.reduceAdd, Nat.reduceEqDiff, Nat.reduceMul, Nat.reduceLT, Nat.reduceLeDiff, Int.reduceLE, Int.reduceToNat, reduceCtorEq, decide_true, decide_false, zfc, zfa, and_self, ne_eq, zfb, zff, zfd, Nat.add_zero, Nat.lt_add_one, Nat.le_refl, eq_self]
  · have hp := qdn x h.procs i hl q.inc
    simp only [Pr.inc, w64] at hp
    rw [if_neg hr]
    rw [qa4, qad qc3 qcq]
    rcases h0 with h0 | h0 <;> simp only [Ex.reg, h0, k6, if_true, if_false] at hr <;>
    simp only [qc5, h0, h1, k1, k2, k3, k4, k5, k5', hr, hq, hp, Pr.inc, w64, Pr.r, Int.natCast_nonneg, Int.toNat_natCast, List.getElem?_map, Option.map_some, qw, qae, qaa, qbn, Nat.reduceLT, Nat.reduceLeDiff, qj, Ev.exec, qb, qe, qc, qaw, qai, Ev.evs, Ev.Opnd.ev, Ev.Env.get, Ev.Env.set, Ev.look, qk, qf, qv, Ev.AV.cells, Ev.AV.uc, qo, Ev.AV.plain, qao, qar, ql, qi, qq, qaj, Ev.kill, qag, qg, qbb, qa2, qb1, qm, qh, qd, qx, ↓qn, ↓reduceIte, List.length_cons, List.length_nil, List.getElem?_cons_zero, List.getElem?_cons_succ, List.take_succ_cons, List.take_zero, zfe, List.drop_succ_cons, List.drop_zero, List.drop_nil, List.cons_append, List.nil_append, List.append_nil, List.set_cons_zero, List.set_cons_succ, List.head?_cons, Nat.reduceAdd, Nat.reduceEqDiff, Nat.reduceMul, Nat.reduceLT, Nat.reduceLeDiff, Int.reduceLE, Int.reduceToNat, reduceCtorEq, decide_true, decide_false, zfc, zfa, and_self, ne_eq, zfb, zff, zfd, Nat.add_zero, Nat.lt_add_one, Nat.le_refl, eq_self]
theorem q64 (h : x.Small) (hq : x.procs[i]? = some q) (h1 : op.code = 8) :
    qa4 (evL T) qcy [(.agg [(ii x.r0), (ii x.r1), (.fsl ((x.procs).map Pr.r) false), (ii x.sum), (ii x.ev.time), (.fsl ((x.ev.key).map qby) false), (ii x.ev.lp), (ii x.ev.kind), (ii x.ev.proc), (ii x.ev.arg), (.fsl ((x.out).map Evt.r) false), (.fsl ((x.gone).map qep) false), (ii x.n), (bb x.over)]), (ii i), (.agg [(ii op.code), (ii op.a), (ii op.b), (ii op.c)])] = some (.tup [(.agg [(ii ((x.setP i { q.inc with alive := false }).r0)), (ii ((x.setP i { q.inc with alive := false }).r1)), (.fsl (((x.setP i { q.inc with alive := false }).procs).map Pr.r) false), (ii ((x.setP i { q.inc with alive := false }).sum)), (ii ((x.setP i { q.inc with alive := false }).ev.time)), (.fsl (((x.setP i { q.inc with alive := false }).ev.key).map qby) false), (ii ((x.setP i { q.inc with alive := false }).ev.lp)), (ii ((x.setP i { q.inc with alive := false }).ev.kind)), (ii ((x.setP i { q.inc with alive := false }).ev.proc)), (ii ((x.setP i { q.inc with alive := false }).ev.arg)), (.fsl (((x.setP i { q.inc with alive := false }).out).map Evt.r) false), (.fsl (((x.setP i { q.inc with alive := false }).gone).map qep) false), (ii ((x.setP i { q.inc with alive := false }).n)), (bb ((x.setP i { q.inc with alive := false }).over))]), (bb true)]) := by
  have hl := (List.getElem?_eq_some_iff.1 hq).1
  have k1 : ¬ (8 : Int) = 1 := by decide
  have k2 : ¬ (8 : Int) = 2 := by decide
  have k3 : ¬ (8 : Int) = 3 := by decide
  have k4 : ¬ (8 : Int) = 4 := by decide
  have k5 : ¬ (8 : Int) = 5 := by decide
  have k6 : ¬ (8 : Int) = 6 := by decide
  have k7 : ¬ (8 : Int) = 7 := by decide
  have hp := qdn x h.procs i hl { q.inc with alive := false }
  simp only [Pr.inc, w64] at hp ⊢
  rw [qa4, qad qc3 qcq]
  simp only [qc5, h1, k1, k2, k3, k4, k5, k6, k7, hq, hp, Pr.r, Int.natCast_nonneg, Int.toNat_natCast, List.getElem?_map, Option.map_some, qw, qae, qaa, qbn, Nat.reduceLeDiff, qj, Ev.exec, qb, qe, qc, qaw, qai, Ev.evs, Ev.Opnd.ev, Ev.Env.get, Ev.Env.set, Ev.look, qk, qf, qv, Ev.AV.cells, Ev.AV.uc, qo, Ev.AV.plain, qao, qar, qi, qq, qaj, Ev.kill, qag, qg, qbb, qa2, qb1, qm, qh, qd, qx, ↓qn, ↓reduceIte, List.length_cons, List.length_nil, List.getElem?_cons_zero, List.getElem?_cons_succ, List.take_succ_cons, List.take_zero, zfe, List.drop_succ_cons, List.drop_zero, List.drop_nil, List.cons_append, List.nil_append, List.append_nil, List.set_cons_zero, List.set_cons_succ, List.head?_cons, Nat.reduceAdd, Nat.reduceEqDiff, Nat.reduceLeDiff, reduceCtorEq, decide_false, zfc, zfa, and_self, ne_eq, zfb, zff, zfd, Nat.add_zero, Nat.le_refl, eq_self]
end
set_option maxRecDepth 10000
def stepR (x : Ex) (i : Nat) (q : Pr) (op : OpI) : Ex × Bool :=
  if (qc4 (x.setP i q.inc) i q.inc op).2 = 1 then ((qc4 (x.setP i q.inc) i q.inc op).1, true)
  else if (qc4 (x.setP i q.inc) i q.inc op).2 = 2 then (qk2 (qc4 (x.setP i q.inc) i q.inc op).1 i, true)
  else ((qc4 (x.setP i q.inc) i q.inc op).1, false)
theorem rstep_ev (x : Ex) (i : Nat) (op : OpI) (q : Pr) (h : x.Small) (hg : x.gone.length < 1000) (hi : x.ev.proc = i) (hq : x.procs[i]? = some q) (ho : OpOk' op) :
    qa4 (evL T) qcy [(.agg [(ii x.r0), (ii x.r1), (.fsl ((x.procs).map Pr.r) false), (ii x.sum), (ii x.ev.time), (.fsl ((x.ev.key).map qby) false), (ii x.ev.lp), (ii x.ev.kind), (ii x.ev.proc), (ii x.ev.arg), (.fsl ((x.out).map Evt.r) false), (.fsl ((x.gone).map qep) false), (ii x.n), (bb x.over)]), (ii i), (.agg [(ii op.code), (ii op.a), (ii op.b), (ii op.c)])] = some (.tup [(.agg [(ii ((stepR x i q op).1.r0)), (ii ((stepR x i q op).1.r1)), (.fsl (((stepR x i q op).1.procs).map Pr.r) false), (ii ((stepR x i q op).1.sum)), (ii ((stepR x i q op).1.ev.time)), (.fsl (((stepR x i q op).1.ev.key).map qby) false), (ii ((stepR x i q op).1.ev.lp)), (ii ((stepR x i q op).1.ev.kind)), (ii ((stepR x i q op).1.ev.proc)), (ii ((stepR x i q op).1.ev.arg)), (.fsl (((stepR x i q op).1.out).map Evt.r) false), (.fsl (((stepR x i q op).1.gone).map qep) false), (ii ((stepR x i q op).1.n)), (bb ((stepR x i q op).1.over))]), (bb ((stepR x i q op).2))]) := by
  have hl := (List.getElem?_eq_some_iff.1 hq).1
  have hc : op.code = 1 ∨ op.code = 2 ∨ op.code = 3 ∨ op.code = 4 ∨ op.code = 5 ∨ op.code = 6 ∨ op.code = 7 ∨ op.code = 8 := by have := ho.code; omega
  have fin : ∀ (y : Ex) (b : Bool), stepR x i q op = (y, b) → qa4 (evL T) qcy [(.agg [(ii x.r0), (ii x.r1), (.fsl ((x.procs).map Pr.r) false), (ii x.sum), (ii x.ev.time), (.fsl ((x.ev.key).map qby) false), (ii x.ev.lp), (ii x.ev.kind), (ii x.ev.proc), (ii x.ev.arg), (.fsl ((x.out).map Evt.r) false), (.fsl ((x.gone).map qep) false), (ii x.n), (bb x.over)]), (ii i), (.agg [(ii op.code), (ii op.a), (ii op.b), (ii op.c)])] = some (.tup [(.agg [(ii y.r0), (ii y.r1), (.fsl ((y.procs).map Pr.r) false), (ii y.sum), (ii y.ev.time), (.fsl ((y.ev.key).map qby) false), (ii y.ev.lp), (ii y.ev.kind), (ii y.ev.proc), (ii y.ev.arg), (.fsl ((y.out).map Evt.r) false), (.fsl ((y.gone).map qep) false), (ii y.n), (bb y.over)]), (bb b)]) → qa4 (evL T) qcy [(.agg [(ii x.r0), (ii x.r1), (.fsl ((x.procs).map Pr.r) false), (ii x.sum), (ii x.ev.time), (.fsl ((x.ev.key).map qby) false), (ii x.ev.lp), (ii x.ev.kind), (ii x.ev.proc), (ii x.ev.arg), (.fsl ((x.out).map Evt.r) false), (.fsl ((x.gone).map qep) false), (ii x.n), (bb x.over)]), (ii i), (.agg [(ii op.code), (ii op.a), (ii op.b), (ii op.c)])] = some (.tup [(.agg [(ii ((stepR x i q op).1.r0)), (ii ((stepR x i q op).1.r1)), (.fsl (((stepR x i q op).1.procs).map Pr.r) false), (ii ((stepR x i q op).1.sum)), (ii ((stepR x i q op).1.ev.time)), (.fsl (((stepR x i q op).1.ev.key).map qby) false), (ii ((stepR x i q op).1.ev.lp)), (ii ((stepR x i q op).1.ev.kind)), (ii ((stepR x i q op).1.ev.proc)), (ii ((stepR x i q op).1.ev.arg)), (.fsl (((stepR x i q op).1.out).map Evt.r) false), (.fsl (((stepR x i q op).1.gone).map qep) false), (ii ((stepR x i q op).1.n)), (bb ((stepR x i q op).1.over))]), (bb ((stepR x i q op).2))]) := by
    intro y b e k; rw [e]; exact k
  rcases hc with hc | hc | hc | hc | hc | hc | hc | hc
  · refine fin _ _ ?_ (q4w x i op q h hq hc)
    simp [stepR, qc4, hc, Ex.setP, Ex.create, Ex.ownE, Ex.kid, hi]
  · refine fin _ _ ?_ (q5n x i op q h hq hc)
    simp [stepR, qc4, hc, Ex.setP, Ex.create, Ex.kid]
  · refine fin _ _ ?_ (q3q x i op q h hg hq hc)
    by_cases ht : 0 < q.timer.length
    · simp [stepR, qc4, hc, Ex.timerE, Ex.stopE, Ex.setP, Ex.create, Ex.ownE, Ex.kid, hi, ht, Pr.inc, List.set_set]
    · simp [stepR, qc4, hc, Ex.timerE, Ex.stopE, Ex.setP, Ex.create, Ex.ownE, Ex.kid, hi, ht, Pr.inc, List.set_set]
  · refine fin _ _ ?_ (q5p x i op q h hg hq hc)
    by_cases ht : 0 < q.timer.length
    · simp [stepR, qc4, hc, Ex.stopE, Ex.setP, ht, Pr.inc, List.set_set]
    · simp [stepR, qc4, hc, Ex.stopE, Ex.setP, ht, Pr.inc]
  · refine fin _ _ ?_ (q3o x i op q h hq hc)
    simp [stepR, qc4, hc]
  · refine fin _ _ ?_ (q7t x i op q h hq hc (ho.reg (.inl hc)))
    rcases ho.reg (.inl hc) with h0 | h0 <;> simp [stepR, qc4, hc, Ex.setP, Ex.setReg, Ex.reg, h0]
  · refine fin _ _ ?_ (q50 x i op q h hq hc (ho.reg (.inr hc)))
    have hr : (x.setP i q.inc).reg op.a = x.reg op.a := rfl
    by_cases ht : x.reg op.a < op.b
    · have hr2 : (x.setP i q.inc).reg op.a < op.b := ht
      have : (qc4 (x.setP i q.inc) i q.inc op) = ((x.setP i q.inc).setP i { q.inc with pc := op.c }, 0) := by simp only [qc4, hc]; rw [if_pos hr2]; rfl
      simp only [stepR, this, ht, if_true]
      simp [Ex.setP, List.set_set]
    · have hr2 : ¬ (x.setP i q.inc).reg op.a < op.b := ht
      have : (qc4 (x.setP i q.inc) i q.inc op) = (x.setP i q.inc, 0) := by simp only [qc4, hc]; rw [if_neg hr2]; rfl
      simp only [stepR, this, ht, if_false]
      simp
  · refine fin _ _ ?_ (q64 x i op q h hq hc)
    have : (x.setP i q.inc).procs[i]? = some q.inc := by simp only [Ex.setP]; rw [List.getElem?_set_self hl]
    have hst : (qc4 (x.setP i q.inc) i q.inc op) = (x.setP i q.inc, 2) := by simp [qc4, hc]
    simp only [stepR, hst, qk2, this]
    simp [Ex.setP, List.set_set]
theorem qwq (p : List OpI) (i n : Nat) (x : Ex) (q : Pr) (hq : x.procs[i]? = some q) : qkg p i (n + 1) x = match p[q.pc.toNat]? with
    | none => qk2 x i
    | some op => if (stepR x i q op).2 = true then (stepR x i q op).1 else qkg p i n (stepR x i q op).1 := by
  simp only [qkg, hq]
  cases hp : p[q.pc.toNat]? with
  | none => rfl
  | some op =>
    show (if (qc4 (x.setP i q.inc) i q.inc op).2 = 1 then (qc4 (x.setP i q.inc) i q.inc op).1 else if (qc4 (x.setP i q.inc) i q.inc op).2 = 2 then qk2 (qc4 (x.setP i q.inc) i q.inc op).1 i else qkg p i n (qc4 (x.setP i q.inc) i q.inc op).1) = (if (stepR x i q op).2 = true then (stepR x i q op).1 else qkg p i n (stepR x i q op).1)
    unfold stepR
    by_cases h1 : (qc4 (x.setP i q.inc) i q.inc op).2 = 1
    · simp only [h1, if_true]
    by_cases h2 : (qc4 (x.setP i q.inc) i q.inc op).2 = 2
    · rw [if_neg h1, if_pos h2, if_neg h1, if_pos h2]; rfl
    · simp only [h1, h2, if_false, zfa]
end Go.Proofs.Ytbhhifdhlafklaa.K
