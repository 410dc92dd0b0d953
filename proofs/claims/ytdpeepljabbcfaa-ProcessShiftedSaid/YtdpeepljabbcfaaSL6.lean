/- Part of the proofs about this seat's program (module SL6). -/
import Derived.Test.YtdpeepljabbcfaaSHead
import Derived.Test.YtdpeepljabbcfaaSSh
set_option linter.unusedSectionVars false
set_option linter.unusedSimpArgs false
set_option linter.unusedVariables false
namespace Go.Proofs.Ytdpeepljabbcfaa.K
open Go.Ev
set_option linter.unusedSimpArgs false
set_option linter.unusedVariables false
set_option maxRecDepth 10000
section
variable (x y : Lp) (e f : Evt) (out : List Evt) (nl : Bool) (b : Int)
theorem shifted_loop (hb : 0 ≤ b ∧ b ≤ 4294967295) (hl : out.length ≤ 16) (hk : ∀ ev ∈ out, ev.key.length ≤ 100) (ht : ∀ ev ∈ out, 0 ≤ ev.time ∧ ev.time ≤ 1152921504606846976) :
    ∃ z, itB (exec (evL T) itL none c_law20_ProcessShifted_L1) (Ev.settle [3, 9, 14, 18, 21] true 5) ⟨[(3, .v (.int .u32 b)), (9, (.v (.bool (true)))), (14, (.fsl ((out).map Evt.r) nl)), (18, (.fsl ((out.map (shE b)).map Evt.r) nl)), (21, (.v (.int .i64 (0))))], []⟩ [.row 4 [[(.v (.int .i64 (x.r0))), (.v (.int .i64 (x.r1))), (.fsl ((x.procs).map Pr.r) false), (.v (.int .i64 (x.sum)))]] 0, .row 6 [[(.v (.int .i64 (e.time))), (.fsl ((e.key).map intC) false), (.v (.int .i64 (e.lp))), (.v (.int .i64 (e.kind))), (.v (.int .i64 (e.proc))), (.v (.int .i64 (e.arg)))]] 0, .row 6 [[(.v (.int .i64 (f.time))), (.fsl ((f.key).map intC) false), (.v (.int .i64 (f.lp))), (.v (.int .i64 (f.kind))), (.v (.int .i64 (f.proc))), (.v (.int .i64 (f.arg)))]] 0, .row 4 [[(.v (.int .i64 (y.r0))), (.v (.int .i64 (y.r1))), (.fsl ((y.procs).map Pr.r) false), (.v (.int .i64 (y.sum)))]] 0, .row 4 [[(.v (.int .i64 (y.r0))), (.v (.int .i64 (y.r1))), (.fsl ((y.procs).map Pr.r) false), (.v (.int .i64 (y.sum)))]] 0] = some z ∧ (z.1 = .exit 0 ∧ z.2.1.marks = [] ∧ z.2.2 = [.row 4 [[(.v (.int .i64 (x.r0))), (.v (.int .i64 (x.r1))), (.fsl ((x.procs).map Pr.r) false), (.v (.int .i64 (x.sum)))]] 0, .row 6 [[(.v (.int .i64 (e.time))), (.fsl ((e.key).map intC) false), (.v (.int .i64 (e.lp))), (.v (.int .i64 (e.kind))), (.v (.int .i64 (e.proc))), (.v (.int .i64 (e.arg)))]] 0, .row 6 [[(.v (.int .i64 (f.time))), (.fsl ((f.key).map intC) false), (.v (.int .i64 (f.lp))), (.v (.int .i64 (f.kind))), (.v (.int .i64 (f.proc))), (.v (.int .i64 (f.arg)))]] 0, .row 4 [[(.v (.int .i64 (y.r0))), (.v (.int .i64 (y.r1))), (.fsl ((y.procs).map Pr.r) false), (.v (.int .i64 (y.sum)))]] 0, .row 4 [[(.v (.int .i64 (y.r0))), (.v (.int .i64 (y.r1))), (.fsl ((y.procs).map Pr.r) false), (.v (.int .i64 (y.sum)))]] 0] ∧ Ev.look z.2.1.vars 9 = some (.v (.bool (true)))) := by
  refine itB_each out (fun i => ⟨[(3, .v (.int .u32 b)), (9, (.v (.bool (true)))), (14, (.fsl ((out).map Evt.r) nl)), (18, (.fsl ((out.map (shE b)).map Evt.r) nl)), (21, (.v (.int .i64 (i))))], []⟩) [.row 4 [[(.v (.int .i64 (x.r0))), (.v (.int .i64 (x.r1))), (.fsl ((x.procs).map Pr.r) false), (.v (.int .i64 (x.sum)))]] 0, .row 6 [[(.v (.int .i64 (e.time))), (.fsl ((e.key).map intC) false), (.v (.int .i64 (e.lp))), (.v (.int .i64 (e.kind))), (.v (.int .i64 (e.proc))), (.v (.int .i64 (e.arg)))]] 0, .row 6 [[(.v (.int .i64 (f.time))), (.fsl ((f.key).map intC) false), (.v (.int .i64 (f.lp))), (.v (.int .i64 (f.kind))), (.v (.int .i64 (f.proc))), (.v (.int .i64 (f.arg)))]] 0, .row 4 [[(.v (.int .i64 (y.r0))), (.v (.int .i64 (y.r1))), (.fsl ((y.procs).map Pr.r) false), (.v (.int .i64 (y.sum)))]] 0, .row 4 [[(.v (.int .i64 (y.r0))), (.v (.int .i64 (y.r1))), (.fsl ((y.procs).map Pr.r) false), (.v (.int .i64 (y.sum)))]] 0] (fun z => _) ?_ ?_
  · intro i ev hi hx
    have hi' : (i : Int) < (out.length : Int) := by omega
    have hw : IntKind.i64.wrap ((i : Int) + 1) = ((i + 1 : Nat) : Int) := by rw [w64_small (by omega) (by omega)]; simp
    have hm := List.mem_of_getElem? hx
    have h1 := hk ev hm
    have h2 := ht ev hm
    have wb : IntKind.i64.wrap b = b := w64_small (by omega) (by omega)
    have ws : IntKind.i64.wrap (ev.time + b - b) = ev.time := by rw [show ev.time + b - b = ev.time from by omega]; exact w64_small (by omega) (by omega)
    have hv := SameEvent_ev ev ev (by omega) (by omega)
    simp only [decide_true] at hv
    simp only [c_law20_ProcessShifted_L1, Int.natCast_nonneg, Int.toNat_natCast, List.getElem?_map, Option.map_some, hx, hi', hw, wb, ws, hv, shE, Evt.r, ints_lo, procs_lo, evts_lo, Nat.reduceLeDiff, Go.Ev.exec, Go.Ev.evOpers, Go.Ev.evOper, Go.Ev.item_op, Go.Ev.item_P, Go.Ev.evOp, Go.Ev.evs, Go.Ev.Opnd.ev, Go.Ev.Env.get, Go.Ev.Env.set, Go.Ev.look, Go.Ev.cellsAt, Go.Ev.loadC, Go.Ev.AV.cells, Go.Ev.AV.uc, Go.Ev.plains, Go.Ev.AV.plain, Go.Ev.bin_add, Go.Ev.bin_sub, Go.Ev.bin_lss, Go.Ev.settle, Go.Ev.keep, Go.Ev.varsLo, Go.Ev.marksLo, Go.Ev.storeLo, Go.Ev.SObj.lo, Go.Ev.lo_v, Go.Ev.lo_agg, Go.Ev.lo_fsl, Go.Ev.los_nil, Go.Ev.los_cons, Go.Ev.loss_nil, Go.Ev.loss_cons, List.length_map, ↓Go.Ev.obind, Go.Ev.it1, ↓reduceIte, List.length_cons, List.length_nil, List.getElem?_cons_zero, List.getElem?_cons_succ, List.take_succ_cons, List.take_zero, List.take_nil, List.drop_succ_cons, List.drop_zero, List.drop_nil, List.cons_append, List.nil_append, List.append_nil, List.set_cons_zero, List.set_cons_succ, List.head?_cons, Nat.reduceAdd, Nat.reduceEqDiff, Nat.reduceLeDiff, decide_true, Bool.and_self, Bool.not_true, Bool.false_eq_true, and_self, ne_eq, not_false_eq_true, List.cons_ne_nil, Nat.zero_add, Nat.add_zero, Nat.le_refl, eq_self]
  · simp only [c_law20_ProcessShifted_L1, Int.lt_irrefl, Go.Ev.exec, Go.Ev.evOpers, Go.Ev.evOper, Go.Ev.item_op, Go.Ev.evOp, Go.Ev.Opnd.ev, Go.Ev.Env.get, Go.Ev.Env.set, Go.Ev.look, Go.Ev.bin_lss, List.length_map, ↓Go.Ev.obind, Go.Ev.it1, ↓reduceIte, Nat.reduceEqDiff, decide_false, Bool.false_eq_true, eq_self]
    exact ⟨_, rfl, rfl, rfl, rfl, rfl⟩
end
theorem law_ProcessShifted (c : Cfg) (raw : Lp) (r : Evt) (b : Int) (hb : 0 ≤ b ∧ b ≤ 4294967295) : callZ (evL T) n_law20_ProcessShifted [(.agg [(.fsl ((c.lps).map lpC) false), (.fsl ((c.progs).map progC) false), (.v (.int .i64 (c.look))), (.v (.int .i64 (c.fin))), (.v (.int .i64 (c.cap)))]), (.agg [(.v (.int .i64 (raw.r0))), (.v (.int .i64 (raw.r1))), (.fsl ((raw.procs).map Pr.r) false), (.v (.int .i64 (raw.sum)))]), (.agg [(.v (.int .i64 (r.time))), (.fsl ((r.key).map intC) false), (.v (.int .i64 (r.lp))), (.v (.int .i64 (r.kind))), (.v (.int .i64 (r.proc))), (.v (.int .i64 (r.arg)))]), .v (.int .u32 b)] = some (.v (.bool (true))) := by
  have hh := law20_head_ev
  have ho := law20_ok_ev c
  cases hb' : okB c with
  | false =>
    rw [hb'] at ho
    rw [callZ, evL_code ext_law20_ProcessShifted code_law20_ProcessShifted]
    simp only [c_law20_ProcessShifted, hh, ho, lps_lo, progs_lo, Go.Ev.runFunc, Go.Ev.exec, Go.Ev.evOpers, Go.Ev.evOper, Go.Ev.item_op, Go.Ev.item_P, Go.Ev.evOp, Go.Ev.evs, Go.Ev.Opnd.ev, Go.Ev.Env.get, Go.Ev.Env.set, Go.Ev.Env.unset, Go.Ev.look, Go.Ev.argVars, Go.Ev.cellsAt, Go.Ev.loadC, Go.Ev.AV.cells, Go.Ev.plains, Go.Ev.AV.plain, Go.Ev.resVals, Go.Ev.resVal, Go.Ev.resOf, Go.Ev.kill, Go.Ev.leave, Go.Ev.storeLo, Go.Ev.lo_v, Go.Ev.lo_agg, Go.Ev.lo_fsl, Go.Ev.los_nil, Go.Ev.los_cons, Go.Ev.frz_lo, ↓Go.Ev.obind, ↓reduceIte, List.length_cons, List.length_nil, List.take_succ_cons, List.take_nil, Nat.reduceAdd, Nat.reduceEqDiff, reduceCtorEq, Bool.and_self, Bool.not_false, Bool.true_eq_false, and_self, ne_eq, not_false_eq_true, List.cons_ne_nil, Nat.zero_add, Nat.le_refl, eq_self]
  | true =>
  rw [hb'] at ho
  have hv := okB_iff hb'
  by_cases h1 : (raw.procs.length : Int) > 20
  · rw [callZ, evL_code ext_law20_ProcessShifted code_law20_ProcessShifted]
    simp only [c_law20_ProcessShifted, hh, ho, h1, lps_lo, progs_lo, Go.Ev.runFunc, Go.Ev.exec, Go.Ev.evOpers, Go.Ev.evOper, Go.Ev.item_op, Go.Ev.item_P, Go.Ev.evOp, Go.Ev.evs, Go.Ev.Opnd.ev, Go.Ev.Env.get, Go.Ev.Env.set, Go.Ev.look, Go.Ev.argVars, Go.Ev.cellsAt, Go.Ev.loadC, Go.Ev.AV.cells, Go.Ev.plains, Go.Ev.AV.plain, Go.Ev.bin_gtr, Go.Ev.resVals, Go.Ev.resVal, Go.Ev.resOf, Go.Ev.kill, Go.Ev.leave, Go.Ev.storeLo, Go.Ev.lo_v, Go.Ev.lo_agg, Go.Ev.lo_fsl, Go.Ev.los_nil, Go.Ev.los_cons, Go.Ev.frz_lo, List.length_map, ↓Go.Ev.obind, ↓reduceIte, List.length_cons, List.length_nil, List.take_succ_cons, List.take_nil, List.drop_succ_cons, List.drop_zero, List.head?_cons, Nat.reduceAdd, Nat.reduceEqDiff, reduceCtorEq, decide_true, Bool.and_self, Bool.not_true, Bool.false_eq_true, and_self, ne_eq, not_false_eq_true, List.cons_ne_nil, Nat.zero_add, Nat.le_refl, eq_self]
  have v5 := law20_State_ev c raw hv
  have hs := stateL_proc hv raw
  have v6 := law20_Event_ev c (stateL c raw) r hv (fun q hq => ⟨(hs.2 q hq).1, (hs.2 q hq).2.1⟩) hs.1
  have hr0 := ready_of hv raw r
  generalize stateL c raw = x at *
  generalize eventE c x r = e0 at *
  obtain ⟨te0, te1⟩ := hr0.time
  have hmod := tmod_small e0.time (n := 1099511627776) (by decide)
  have hmod0 : 0 ≤ e0.time.tmod 1099511627776 := Int.tmod_nonneg _ te0
  have hr := hr0.later (t := e0.time.tmod 1099511627776) ⟨hmod0, by omega⟩
  have hn0 : ¬ (1099511627776 : Int) = 0 := by decide
  have wb : IntKind.i64.wrap b = b := w64_small (by omega) (by omega)
  have wt : IntKind.i64.wrap (e0.time.tmod 1099511627776 + b) = e0.time.tmod 1099511627776 + b := w64_small (by omega) (by omega)
  have hr2 := hr.later (t := e0.time.tmod 1099511627776 + b) ⟨by omega, by omega⟩
  have v7 := Exec_ev hr
  have v8 := Exec_ev hr2
  obtain ⟨z1, z2, z3, z4, z5, z6⟩ := hr.sizes
  obtain ⟨X, o1, o2, o3⟩ := hr.outs
  obtain ⟨q1, q2, q3, q4, q5, q6⟩ := sh_exec hb hr (by show e0.time.tmod 1099511627776 ≤ _; omega)
  have heq : shE b { e0 with time := e0.time.tmod 1099511627776 } = { e0 with time := e0.time.tmod 1099511627776 + b } := rfl
  rw [heq] at q1 q2 q3 q4 q6
  simp only at v7 v8
  rw [q1, q2, q3, q4, q6] at v8
  rw [q5] at v7
  generalize execR c x { e0 with time := e0.time.tmod 1099511627776 } = R at *
  obtain ⟨y, out, gone, over, nl⟩ := R
  dsimp only at *
  have sy : y.Short := ⟨by omega, fun q hq => by have := z2 q hq; omega⟩
  have v9 := ref20_Equal_ev y y sy sy
  have v11 := SameKeys_ev gone gone nl nl (by omega) (by omega) (fun ev h => by have := z5 ev h; omega) (fun ev h => by have := z5 ev h; omega)
  simp only [decide_true] at v9 v11
  have hlm : (out.map (shE b)).length = out.length := by simp
  obtain ⟨⟨z, ee, σ⟩, k1, k2, k3, k4, k5⟩ := shifted_loop x y { e0 with time := e0.time.tmod 1099511627776 } { e0 with time := e0.time.tmod 1099511627776 + b } out nl b hb z3 z4 (fun ev hev => by
    obtain ⟨k, hk⟩ := List.mem_iff_getElem?.1 hev
    have := (o2 k ev hk).time
    simp only at this
    omega)
  simp only at k1 k2 k3 k4
  subst k2 k4
  rw [callZ, evL_code ext_law20_ProcessShifted code_law20_ProcessShifted]
  simp only [c_law20_ProcessShifted, hh, ho, h1, hn0, wb, wt, v5, v6, v7, v8, v9, v11, hlm, k1, k3, k5, lps_lo, progs_lo, ints_lo, procs_lo, evts_lo, keys_lo, Nat.reduceLeDiff, Go.Ev.runFunc, Go.Ev.exec, Go.Ev.evOpers, Go.Ev.evOper, Go.Ev.item_op, Go.Ev.item_P, Go.Ev.evOp, Go.Ev.evs, Go.Ev.Opnd.ev, Go.Ev.Env.get, Go.Ev.Env.set, Go.Ev.look, Go.Ev.argVars, Go.Ev.cellsAt, Go.Ev.loadC, Go.Ev.AV.cells, Go.Ev.AV.uc, Go.Ev.plains, Go.Ev.AV.plain, Go.Ev.bin_add, Go.Ev.bin_rem, Go.Ev.bin_neq, Go.Ev.bin_gtr, Go.Ev.resVals, Go.Ev.resVal, Go.Ev.resOf, Go.Ev.kill, Go.Ev.leave, Go.Ev.settle, Go.Ev.keep, Go.Ev.varsLo, Go.Ev.marksLo, Go.Ev.storeLo, Go.Ev.SObj.lo, Go.Ev.lo_v, Go.Ev.lo_agg, Go.Ev.lo_fsl, Go.Ev.los_nil, Go.Ev.los_cons, Go.Ev.loss_nil, Go.Ev.loss_cons, Go.Ev.frz_lo, List.length_map, ↓Go.Ev.obind, ↓Go.Ev.itL_itB, ↓reduceIte, List.length_cons, List.length_nil, List.getElem?_cons_zero, List.getElem?_cons_succ, List.take_succ_cons, List.take_zero, List.take_nil, List.drop_succ_cons, List.drop_zero, List.drop_nil, List.cons_append, List.nil_append, List.append_nil, List.set_cons_zero, List.set_cons_succ, List.head?_cons, Nat.reduceAdd, Nat.reduceEqDiff, Nat.reduceLeDiff, reduceCtorEq, decide_false, Bool.and_self, Bool.not_true, Bool.false_eq_true, and_self, ne_eq, not_false_eq_true, not_true_eq_false, List.cons_ne_nil, Nat.zero_add, Nat.add_zero, Nat.le_refl, eq_self]
end Go.Proofs.Ytdpeepljabbcfaa.K
