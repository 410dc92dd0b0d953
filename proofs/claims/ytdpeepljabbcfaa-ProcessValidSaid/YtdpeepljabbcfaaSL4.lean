/- Part of the proofs about this seat's program (module SL4). -/
import Derived.Test.YtdpeepljabbcfaaSHead
import Derived.Test.YtdpeepljabbcfaaCRuns
set_option linter.unusedSectionVars false
set_option linter.unusedSimpArgs false
set_option linter.unusedVariables false
namespace Go.Proofs.Ytdpeepljabbcfaa.K
open Go.Ev
set_option linter.unusedSimpArgs false
set_option linter.unusedVariables false
set_option maxRecDepth 10000
section
variable (x y : Lp) (e : Evt)
theorem valid_loop (hy8 : y.procs.length ≤ 8) (hxt : ∀ q ∈ x.procs, q.timer.length ≤ 20)
    (hst : ∀ (j : Nat) (q' : Pr), y.procs[j]? = some q' → (x.procs.length ≤ j → q'.alive = true ∧ q'.pc = 0) ∧ ∀ q, x.procs[j]? = some q → q'.prog = q.prog ∧ ((j : Int) ≠ e.proc → q' = q)) :
    ∃ z, itB (exec (evL T) itL none c_law20_ProcessValid_L1) (Ev.settle [7, 8, 9, 10, 14] true 3) ⟨[(7, (.v (.bool (true)))), (8, .ptr 0 0 0 0), (9, .ptr 1 0 0 0), (10, .ptr 2 0 0 0), (14, (.v (.int .i64 (0))))], []⟩ [.row 4 [[(.v (.int .i64 (x.r0))), (.v (.int .i64 (x.r1))), (.fsl ((x.procs).map Pr.r) false), (.v (.int .i64 (x.sum)))]] 0, .row 6 [[(.v (.int .i64 (e.time))), (.fsl ((e.key).map intC) false), (.v (.int .i64 (e.lp))), (.v (.int .i64 (e.kind))), (.v (.int .i64 (e.proc))), (.v (.int .i64 (e.arg)))]] 0, .row 4 [[(.v (.int .i64 (y.r0))), (.v (.int .i64 (y.r1))), (.fsl ((y.procs).map Pr.r) false), (.v (.int .i64 (y.sum)))]] 0] = some z ∧ (z.1 = .exit 0 ∧ z.2.1.marks = [] ∧ z.2.2 = [.row 4 [[(.v (.int .i64 (x.r0))), (.v (.int .i64 (x.r1))), (.fsl ((x.procs).map Pr.r) false), (.v (.int .i64 (x.sum)))]] 0, .row 6 [[(.v (.int .i64 (e.time))), (.fsl ((e.key).map intC) false), (.v (.int .i64 (e.lp))), (.v (.int .i64 (e.kind))), (.v (.int .i64 (e.proc))), (.v (.int .i64 (e.arg)))]] 0, .row 4 [[(.v (.int .i64 (y.r0))), (.v (.int .i64 (y.r1))), (.fsl ((y.procs).map Pr.r) false), (.v (.int .i64 (y.sum)))]] 0] ∧ Ev.look z.2.1.vars 7 = some (.v (.bool (true)))) := by
  refine itB_each y.procs (fun i => ⟨[(7, (.v (.bool (true)))), (8, .ptr 0 0 0 0), (9, .ptr 1 0 0 0), (10, .ptr 2 0 0 0), (14, (.v (.int .i64 (i))))], []⟩) [.row 4 [[(.v (.int .i64 (x.r0))), (.v (.int .i64 (x.r1))), (.fsl ((x.procs).map Pr.r) false), (.v (.int .i64 (x.sum)))]] 0, .row 6 [[(.v (.int .i64 (e.time))), (.fsl ((e.key).map intC) false), (.v (.int .i64 (e.lp))), (.v (.int .i64 (e.kind))), (.v (.int .i64 (e.proc))), (.v (.int .i64 (e.arg)))]] 0, .row 4 [[(.v (.int .i64 (y.r0))), (.v (.int .i64 (y.r1))), (.fsl ((y.procs).map Pr.r) false), (.v (.int .i64 (y.sum)))]] 0] (fun z => _) ?_ ?_
  · intro i q' hi hx
    have hi' : (i : Int) < (y.procs.length : Int) := by omega
    have hw : IntKind.i64.wrap ((i : Int) + 1) = ((i + 1 : Nat) : Int) := by rw [w64_small (by omega) (by omega)]; simp
    obtain ⟨s1, s2⟩ := hst i q' hx
    by_cases hxl : (i : Int) ≥ (x.procs.length : Int)
    · obtain ⟨s3, s4⟩ := s1 (by omega)
      simp only [c_law20_ProcessValid_L1, Int.natCast_nonneg, Int.toNat_natCast, List.getElem?_map, Option.map_some, hx, hi', hw, hxl, s3, s4, Pr.r, ints_lo, procs_lo, Nat.reduceLT, Go.Ev.exec, Go.Ev.evOpers, Go.Ev.evOper, Go.Ev.item_op, Go.Ev.evOp, Go.Ev.Opnd.ev, Go.Ev.Env.get, Go.Ev.Env.set, Go.Ev.look, Go.Ev.cellsAt, Go.Ev.loadC, Go.Ev.bin_add, Go.Ev.bin_neq, Go.Ev.bin_lss, Go.Ev.bin_geq, Go.Ev.settle, Go.Ev.keep, Go.Ev.varsLo, Go.Ev.marksLo, Go.Ev.storeLo, Go.Ev.SObj.lo, Go.Ev.lo_v, Go.Ev.lo_fsl, Go.Ev.lo_ptr, Go.Ev.los_nil, Go.Ev.los_cons, Go.Ev.loss_nil, Go.Ev.loss_cons, List.length_map, ↓Go.Ev.obind, Go.Ev.it1, ↓reduceIte, List.length_cons, List.length_nil, List.getElem?_cons_zero, List.getElem?_cons_succ, List.take_succ_cons, List.take_nil, List.drop_succ_cons, List.drop_zero, List.head?_cons, Nat.reduceAdd, Nat.reduceEqDiff, Nat.reduceLT, decide_true, decide_false, Bool.and_self, Bool.not_true, Bool.false_eq_true, and_self, ne_eq, not_true_eq_false, Nat.zero_add, Nat.lt_add_one, eq_self]
    · obtain ⟨q, hq⟩ : ∃ q, x.procs[i]? = some q := ⟨_, List.getElem?_eq_getElem (by omega)⟩
      obtain ⟨s5, s6⟩ := s2 q hq
      by_cases hpi : (i : Int) = e.proc
      · have hpi2 : e.proc = (i : Int) := hpi.symm
        simp only [c_law20_ProcessValid_L1, Int.natCast_nonneg, Int.toNat_natCast, List.getElem?_map, Option.map_some, hx, hq, hi', hw, hxl, hpi2, s5, Pr.r, ints_lo, procs_lo, Nat.reduceLT, Go.Ev.exec, Go.Ev.evOpers, Go.Ev.evOper, Go.Ev.item_op, Go.Ev.evOp, Go.Ev.Opnd.ev, Go.Ev.Env.get, Go.Ev.Env.set, Go.Ev.Env.unset, Go.Ev.look, Go.Ev.cellsAt, Go.Ev.loadC, Go.Ev.bin_add, Go.Ev.bin_neq, Go.Ev.bin_lss, Go.Ev.bin_geq, Go.Ev.settle, Go.Ev.keep, Go.Ev.varsLo, Go.Ev.marksLo, Go.Ev.storeLo, Go.Ev.SObj.lo, Go.Ev.lo_v, Go.Ev.lo_fsl, Go.Ev.lo_ptr, Go.Ev.los_nil, Go.Ev.los_cons, Go.Ev.loss_nil, Go.Ev.loss_cons, List.length_map, ↓Go.Ev.obind, Go.Ev.it1, ↓reduceIte, List.length_cons, List.length_nil, List.getElem?_cons_zero, List.getElem?_cons_succ, List.take_succ_cons, List.take_nil, List.drop_succ_cons, List.drop_zero, List.head?_cons, Nat.reduceAdd, Nat.reduceEqDiff, Nat.reduceLT, decide_true, decide_false, Bool.and_self, Bool.false_eq_true, and_self, ne_eq, not_true_eq_false, Nat.zero_add, Nat.lt_add_one, eq_self]
      · have := s6 hpi
        subst this
        have hsub : i + 1 - i = 1 := by omega
        have hle : (i : Int) ≤ ((i + 1 : Nat) : Int) := by omega
        have hlx : ((i + 1 : Nat) : Int) ≤ (x.procs.length : Int) := by omega
        have hly : ((i + 1 : Nat) : Int) ≤ (y.procs.length : Int) := by omega
        have hd : ∀ l : List Pr, l[i]? = some q' → List.take 1 (List.drop i (l.map Pr.r)) = [[(.v (.int .i64 (q'.prog))), (.v (.int .i64 (q'.pc))), (.v (.bool (q'.alive))), (.fsl ((q'.timer).map intC) false)]] := by
          intro l hl
          obtain ⟨h1, h2⟩ := List.getElem?_eq_some_iff.1 hl
          rw [List.drop_eq_getElem_cons (by simpa using h1)]
          simp [h2, Pr.r]
        have hdx := hd x.procs hq
        have hdy := hd y.procs hx
        have hv := ref20_Equal_ev (⟨0, 0, [q'], 0⟩ : Lp) ⟨0, 0, [q'], 0⟩ ⟨by simp, fun q h => by simp at h; subst h; have := hxt q (List.mem_of_getElem? hq); omega⟩ ⟨by simp, fun q h => by simp at h; subst h; have := hxt q (List.mem_of_getElem? hq); omega⟩
        simp only [decide_true, List.map_cons, List.map_nil, Pr.r] at hv
        simp only [c_law20_ProcessValid_L1, Int.natCast_nonneg, Int.toNat_natCast, List.getElem?_map, Option.map_some, hx, hq, hi', hw, hxl, hpi, hsub, hle, hlx, hly, hdx, hdy, hv, procs_ok, Int.le_refl, Pr.r, ints_lo, procs_lo, Nat.reduceLT, Nat.reduceLeDiff, Go.Ev.exec, Go.Ev.evOpers, Go.Ev.evOper, Go.Ev.item_op, Go.Ev.item_P, Go.Ev.evOp, Go.Ev.evs, Go.Ev.Opnd.ev, Go.Ev.Env.get, Go.Ev.Env.set, Go.Ev.look, Go.Ev.optInt, Go.Ev.cellsAt, Go.Ev.loadC, Go.Ev.fillP, Go.Ev.AV.cells, Go.Ev.AV.uc, Go.Ev.plains, Go.Ev.AV.plain, Go.Ev.bin_add, Go.Ev.bin_neq, Go.Ev.bin_lss, Go.Ev.bin_geq, Go.Ev.settle, Go.Ev.keep, Go.Ev.varsLo, Go.Ev.marksLo, Go.Ev.storeLo, Go.Ev.SObj.lo, Go.Ev.lo_v, Go.Ev.lo_agg, Go.Ev.lo_fsl, Go.Ev.lo_ptr, Go.Ev.los_nil, Go.Ev.los_cons, Go.Ev.loss_nil, Go.Ev.loss_cons, List.length_map, ↓Go.Ev.obind, Go.Ev.it1, ↓reduceIte, List.length_cons, List.length_nil, List.getElem?_cons_zero, List.getElem?_cons_succ, List.take_succ_cons, List.take_zero, List.take_nil, List.drop_succ_cons, List.drop_zero, List.cons_append, List.nil_append, List.head?_cons, Nat.reduceAdd, Nat.reduceEqDiff, Nat.reduceLT, Nat.reduceLeDiff, decide_true, decide_false, Bool.and_self, Bool.not_true, Bool.false_eq_true, and_self, ne_eq, not_false_eq_true, not_true_eq_false, Nat.zero_add, Nat.lt_add_one, Option.isSome_some, Option.isSome_none, eq_self, implies_true, Bool.false_and]
  · simp only [c_law20_ProcessValid_L1, Int.lt_irrefl, Go.Ev.exec, Go.Ev.evOpers, Go.Ev.evOper, Go.Ev.item_op, Go.Ev.evOp, Go.Ev.Opnd.ev, Go.Ev.Env.get, Go.Ev.Env.set, Go.Ev.look, Go.Ev.cellsAt, Go.Ev.loadC, Go.Ev.bin_lss, List.length_map, ↓Go.Ev.obind, Go.Ev.it1, ↓reduceIte, List.getElem?_cons_zero, List.getElem?_cons_succ, List.drop_succ_cons, List.drop_zero, List.head?_cons, Nat.reduceEqDiff, decide_false, Bool.false_eq_true, Nat.zero_add, eq_self]
    exact ⟨_, rfl, rfl, rfl, rfl, rfl⟩
end
theorem law_ProcessValid (c : Cfg) (raw : Lp) (r : Evt) : callZ (evL T) n_law20_ProcessValid [(.agg [(.fsl ((c.lps).map lpC) false), (.fsl ((c.progs).map progC) false), (.v (.int .i64 (c.look))), (.v (.int .i64 (c.fin))), (.v (.int .i64 (c.cap)))]), (.agg [(.v (.int .i64 (raw.r0))), (.v (.int .i64 (raw.r1))), (.fsl ((raw.procs).map Pr.r) false), (.v (.int .i64 (raw.sum)))]), (.agg [(.v (.int .i64 (r.time))), (.fsl ((r.key).map intC) false), (.v (.int .i64 (r.lp))), (.v (.int .i64 (r.kind))), (.v (.int .i64 (r.proc))), (.v (.int .i64 (r.arg)))])] = some (.v (.bool (true))) := by
  have hh := law20_head_ev
  have ho := law20_ok_ev c
  cases hb : okB c with
  | false =>
    rw [hb] at ho
    rw [callZ, evL_code ext_law20_ProcessValid code_law20_ProcessValid]
    simp only [c_law20_ProcessValid, hh, ho, lps_lo, progs_lo, Go.Ev.runFunc, Go.Ev.exec, Go.Ev.evOpers, Go.Ev.evOper, Go.Ev.item_op, Go.Ev.item_P, Go.Ev.evOp, Go.Ev.evs, Go.Ev.Opnd.ev, Go.Ev.Env.get, Go.Ev.Env.set, Go.Ev.Env.unset, Go.Ev.look, Go.Ev.argVars, Go.Ev.cellsAt, Go.Ev.loadC, Go.Ev.AV.cells, Go.Ev.plains, Go.Ev.AV.plain, Go.Ev.resVals, Go.Ev.resVal, Go.Ev.resOf, Go.Ev.kill, Go.Ev.leave, Go.Ev.storeLo, Go.Ev.lo_v, Go.Ev.lo_agg, Go.Ev.lo_fsl, Go.Ev.los_nil, Go.Ev.los_cons, Go.Ev.frz_lo, ↓Go.Ev.obind, ↓reduceIte, List.length_cons, List.length_nil, List.take_succ_cons, List.take_nil, Nat.reduceAdd, Nat.reduceEqDiff, reduceCtorEq, Bool.and_self, Bool.not_false, Bool.true_eq_false, and_self, ne_eq, not_false_eq_true, List.cons_ne_nil, Nat.zero_add, Nat.le_refl, eq_self]
  | true =>
  rw [hb] at ho
  have hv := okB_iff hb
  by_cases h1 : (raw.procs.length : Int) > 20
  · rw [callZ, evL_code ext_law20_ProcessValid code_law20_ProcessValid]
    simp only [c_law20_ProcessValid, hh, ho, h1, lps_lo, progs_lo, Go.Ev.runFunc, Go.Ev.exec, Go.Ev.evOpers, Go.Ev.evOper, Go.Ev.item_op, Go.Ev.item_P, Go.Ev.evOp, Go.Ev.evs, Go.Ev.Opnd.ev, Go.Ev.Env.get, Go.Ev.Env.set, Go.Ev.look, Go.Ev.argVars, Go.Ev.cellsAt, Go.Ev.loadC, Go.Ev.AV.cells, Go.Ev.plains, Go.Ev.AV.plain, Go.Ev.bin_gtr, Go.Ev.resVals, Go.Ev.resVal, Go.Ev.resOf, Go.Ev.kill, Go.Ev.leave, Go.Ev.storeLo, Go.Ev.lo_v, Go.Ev.lo_agg, Go.Ev.lo_fsl, Go.Ev.los_nil, Go.Ev.los_cons, Go.Ev.frz_lo, List.length_map, ↓Go.Ev.obind, ↓reduceIte, List.length_cons, List.length_nil, List.take_succ_cons, List.take_nil, List.drop_succ_cons, List.drop_zero, List.head?_cons, Nat.reduceAdd, Nat.reduceEqDiff, reduceCtorEq, decide_true, Bool.and_self, Bool.not_true, Bool.false_eq_true, and_self, ne_eq, not_false_eq_true, List.cons_ne_nil, Nat.zero_add, Nat.le_refl, eq_self]
  have hpl : c.progs.length ≤ 1000 := by have := hv.progs; omega
  have v5 := law20_State_ev c raw hv
  have hs := stateL_proc hv raw
  have v6 := law20_Event_ev c (stateL c raw) r hv (fun q hq => ⟨(hs.2 q hq).1, (hs.2 q hq).2.1⟩) hs.1
  have hr := ready_of hv raw r
  generalize stateL c raw = x at *
  generalize eventE c x r = e at *
  have v7 := Exec_ev hr
  obtain ⟨z1, z2, z3, z4, z5, z6⟩ := hr.sizes
  obtain ⟨t1, t2⟩ := hr.state
  generalize execR c x e = R at *
  obtain ⟨y, out, gone, over, nl⟩ := R
  dsimp only at *
  have vx : validB c x = true := by
    simp only [validB, Bool.and_eq_true, decide_eq_true_eq, List.all_eq_true]
    refine ⟨hs.1, fun q hq => ?_⟩
    obtain ⟨a, b, d, f, g⟩ := hr.proc q hq
    simp only [badP, a, b, d, f, decide_true, Bool.and_self, Bool.not_true, Bool.not_false]
  have vy : validB c y = true := by
    simp only [validB, Bool.and_eq_true, decide_eq_true_eq, List.all_eq_true]
    refine ⟨z1, fun q hq => ?_⟩
    obtain ⟨j, hj⟩ := List.mem_iff_getElem?.1 hq
    rw [(t2 j q hj).1]; rfl
  have v8 := process_Valid_ev c x hpl
  have v9 := process_Valid_ev c y hpl
  rw [vx] at v8
  rw [vy] at v9
  have g1 : ¬ (y.procs.length : Int) < (x.procs.length : Int) := by omega
  have g2 : ¬ (out.length : Int) > 16 := by omega
  obtain ⟨⟨z, ee, σ⟩, k1, k2, k3, k4, k5⟩ := valid_loop x y e z1 (fun q hq => (hr.proc q hq).2.2.2.2) (fun j q' hj => (t2 j q' hj).2)
  simp only at k2 k3 k4
  subst k2 k4
  rw [callZ, evL_code ext_law20_ProcessValid code_law20_ProcessValid]
  simp only [c_law20_ProcessValid, hh, ho, h1, v5, v6, v7, v8, v9, g1, g2, k1, k3, k5, lps_lo, progs_lo, ints_lo, procs_lo, Nat.reduceLT, Go.Ev.runFunc, Go.Ev.exec, Go.Ev.evOpers, Go.Ev.evOper, Go.Ev.item_op, Go.Ev.item_P, Go.Ev.evOp, Go.Ev.evs, Go.Ev.Opnd.ev, Go.Ev.Env.get, Go.Ev.Env.set, Go.Ev.look, Go.Ev.argVars, Go.Ev.cellsAt, Go.Ev.loadC, Go.Ev.AV.cells, Go.Ev.plains, Go.Ev.AV.plain, Go.Ev.bin_lss, Go.Ev.bin_gtr, Go.Ev.resVals, Go.Ev.resVal, Go.Ev.resOf, Go.Ev.kill, Go.Ev.leave, Go.Ev.settle, Go.Ev.keep, Go.Ev.varsLo, Go.Ev.marksLo, Go.Ev.storeLo, Go.Ev.SObj.lo, Go.Ev.lo_v, Go.Ev.lo_agg, Go.Ev.lo_fsl, Go.Ev.lo_ptr, Go.Ev.los_nil, Go.Ev.los_cons, Go.Ev.loss_nil, Go.Ev.loss_cons, Go.Ev.frz_lo, List.length_map, ↓Go.Ev.obind, ↓Go.Ev.itL_itB, ↓reduceIte, List.length_cons, List.length_nil, List.getElem?_cons_zero, List.getElem?_cons_succ, List.take_succ_cons, List.take_zero, List.take_nil, List.drop_succ_cons, List.drop_zero, List.drop_nil, List.cons_append, List.nil_append, List.append_nil, List.set_cons_zero, List.set_cons_succ, List.head?_cons, Nat.reduceAdd, Nat.reduceEqDiff, Nat.reduceLT, reduceCtorEq, decide_true, decide_false, Bool.and_self, Bool.not_true, Bool.false_eq_true, and_self, ne_eq, not_false_eq_true, List.cons_ne_nil, Nat.zero_add, Nat.lt_add_one, Nat.le_refl, eq_self]
end Go.Proofs.Ytdpeepljabbcfaa.K
