/- Part of the proofs about this seat's program (module SL1). -/
import Derived.Test.YtdpeepljabbcfaaSHead
import Derived.Test.YtdpeepljabbcfaaCRuns
set_option linter.unusedSectionVars false
set_option linter.unusedSimpArgs false
set_option linter.unusedVariables false
namespace Go.Proofs.Ytdpeepljabbcfaa.K
open Go.Ev
set_option linter.unusedSimpArgs false
set_option linter.unusedVariables false
set_option maxRecDepth 10000
theorem Lp.short_of {x : Lp} (h : x.procs.length ≤ 8 ∧ ∀ q ∈ x.procs, q.timer.length ≤ 100) : x.Short := ⟨by omega, fun q hq => by have := h.2 q hq; omega⟩
theorem law_ProcessMatchesReference (c : Cfg) (raw other : Lp) (r : Evt) (s1 : raw.Short) (s2 : other.Short) :
    callZ (evL T) n_law20_ProcessMatchesReference [(.agg [(.fsl ((c.lps).map lpC) false), (.fsl ((c.progs).map progC) false), (.v (.int .i64 (c.look))), (.v (.int .i64 (c.fin))), (.v (.int .i64 (c.cap)))]), (.agg [(.v (.int .i64 (raw.r0))), (.v (.int .i64 (raw.r1))), (.fsl ((raw.procs).map Pr.r) false), (.v (.int .i64 (raw.sum)))]), (.agg [(.v (.int .i64 (other.r0))), (.v (.int .i64 (other.r1))), (.fsl ((other.procs).map Pr.r) false), (.v (.int .i64 (other.sum)))]), (.agg [(.v (.int .i64 (r.time))), (.fsl ((r.key).map intC) false), (.v (.int .i64 (r.lp))), (.v (.int .i64 (r.kind))), (.v (.int .i64 (r.proc))), (.v (.int .i64 (r.arg)))])] = some (.v (.bool (true))) := by
  have hh := law20_head_ev
  have ho := law20_ok_ev c
  cases hb : okB c with
  | false =>
    rw [hb] at ho
    rw [callZ, evL_code ext_law20_ProcessMatchesReference code_law20_ProcessMatchesReference]
    simp only [c_law20_ProcessMatchesReference, hh, ho, lps_lo, progs_lo, Go.Ev.runFunc, Go.Ev.exec, Go.Ev.evOpers, Go.Ev.evOper, Go.Ev.item_op, Go.Ev.item_P, Go.Ev.evOp, Go.Ev.evs, Go.Ev.Opnd.ev, Go.Ev.Env.get, Go.Ev.Env.set, Go.Ev.Env.unset, Go.Ev.look, Go.Ev.argVars, Go.Ev.cellsAt, Go.Ev.loadC, Go.Ev.AV.cells, Go.Ev.plains, Go.Ev.AV.plain, Go.Ev.resVals, Go.Ev.resVal, Go.Ev.resOf, Go.Ev.kill, Go.Ev.leave, Go.Ev.storeLo, Go.Ev.lo_v, Go.Ev.lo_agg, Go.Ev.lo_fsl, Go.Ev.los_nil, Go.Ev.los_cons, Go.Ev.frz_lo, ↓Go.Ev.obind, ↓reduceIte, List.length_cons, List.length_nil, List.take_succ_cons, List.take_nil, Nat.reduceAdd, Nat.reduceEqDiff, reduceCtorEq, Bool.and_self, Bool.not_false, Bool.true_eq_false, and_self, ne_eq, not_false_eq_true, List.cons_ne_nil, Nat.zero_add, Nat.le_refl, eq_self]
  | true =>
  rw [hb] at ho
  have hv := okB_iff hb
  by_cases h1 : (raw.procs.length : Int) > 20
  · rw [callZ, evL_code ext_law20_ProcessMatchesReference code_law20_ProcessMatchesReference]
    simp only [c_law20_ProcessMatchesReference, hh, ho, h1, lps_lo, progs_lo, Go.Ev.runFunc, Go.Ev.exec, Go.Ev.evOpers, Go.Ev.evOper, Go.Ev.item_op, Go.Ev.item_P, Go.Ev.evOp, Go.Ev.evs, Go.Ev.Opnd.ev, Go.Ev.Env.get, Go.Ev.Env.set, Go.Ev.Env.unset, Go.Ev.look, Go.Ev.argVars, Go.Ev.cellsAt, Go.Ev.loadC, Go.Ev.AV.cells, Go.Ev.plains, Go.Ev.AV.plain, Go.Ev.bin_gtr, Go.Ev.resVals, Go.Ev.resVal, Go.Ev.resOf, Go.Ev.kill, Go.Ev.leave, Go.Ev.storeLo, Go.Ev.lo_v, Go.Ev.lo_agg, Go.Ev.lo_fsl, Go.Ev.los_nil, Go.Ev.los_cons, Go.Ev.frz_lo, List.length_map, ↓Go.Ev.obind, ↓reduceIte, List.length_cons, List.length_nil, List.take_succ_cons, List.take_nil, List.drop_succ_cons, List.drop_zero, List.head?_cons, Nat.reduceAdd, Nat.reduceEqDiff, reduceCtorEq, decide_true, Bool.and_self, Bool.not_true, Bool.false_eq_true, Bool.true_eq_false, and_self, ne_eq, not_false_eq_true, List.cons_ne_nil, Nat.zero_add, Nat.le_refl, eq_self]
  by_cases h2 : (other.procs.length : Int) > 20
  · rw [callZ, evL_code ext_law20_ProcessMatchesReference code_law20_ProcessMatchesReference]
    simp only [c_law20_ProcessMatchesReference, hh, ho, h1, h2, lps_lo, progs_lo, Go.Ev.runFunc, Go.Ev.exec, Go.Ev.evOpers, Go.Ev.evOper, Go.Ev.item_op, Go.Ev.item_P, Go.Ev.evOp, Go.Ev.evs, Go.Ev.Opnd.ev, Go.Ev.Env.get, Go.Ev.Env.set, Go.Ev.look, Go.Ev.argVars, Go.Ev.cellsAt, Go.Ev.loadC, Go.Ev.AV.cells, Go.Ev.plains, Go.Ev.AV.plain, Go.Ev.bin_gtr, Go.Ev.resVals, Go.Ev.resVal, Go.Ev.resOf, Go.Ev.kill, Go.Ev.leave, Go.Ev.storeLo, Go.Ev.lo_v, Go.Ev.lo_agg, Go.Ev.lo_fsl, Go.Ev.los_nil, Go.Ev.los_cons, Go.Ev.frz_lo, List.length_map, ↓Go.Ev.obind, ↓reduceIte, List.length_cons, List.length_nil, List.take_succ_cons, List.take_nil, List.drop_succ_cons, List.drop_zero, List.head?_cons, Nat.reduceAdd, Nat.reduceEqDiff, reduceCtorEq, decide_true, decide_false, Bool.and_self, Bool.not_true, Bool.false_eq_true, and_self, ne_eq, not_false_eq_true, List.cons_ne_nil, Nat.zero_add, Nat.le_refl, eq_self]
  have hpl : c.progs.length ≤ 1000 := by have := hv.progs; omega
  have v1 := process_Valid_ev c raw hpl
  have v2 := ref20_Valid_ev c raw hpl
  have v3 := process_Equal_ev raw other s1 s2
  have v4 := ref20_Equal_ev raw other s1 s2
  have v5 := law20_State_ev c raw hv
  have hs := stateL_proc hv raw
  have v6 := law20_Event_ev c (stateL c raw) r hv (fun q hq => ⟨(hs.2 q hq).1, (hs.2 q hq).2.1⟩) hs.1
  have hr := ready_of hv raw r
  generalize stateL c raw = x at *
  generalize eventE c x r = e at *
  have v7 := Exec_ev hr
  have v8 := RExec_ev hr
  obtain ⟨z1, z2, z3, z4, z5, z6⟩ := hr.sizes
  generalize execR c x e = R at *
  obtain ⟨y, out, gone, over, nl⟩ := R
  have sy := Lp.short_of ⟨z1, z2⟩
  dsimp only at *
  have v9 := ref20_Equal_ev y y sy sy
  have v10 := SameEvents_ev out out nl nl (by omega) (by omega) (fun ev h => by have := z4 ev h; omega) (fun ev h => by have := z4 ev h; omega)
  have v11 := SameKeys_ev gone gone nl nl (by omega) (by omega) (fun ev h => by have := z5 ev h; omega) (fun ev h => by have := z5 ev h; omega)
  simp only [decide_true] at v9 v10 v11
  rw [callZ, evL_code ext_law20_ProcessMatchesReference code_law20_ProcessMatchesReference]
  simp only [c_law20_ProcessMatchesReference, hh, ho, h1, h2, v1, v2, v3, v4, v5, v6, v7, v8, v9, v10, v11, lps_lo, progs_lo, beq_self_eq_true, Bool.not_true, ints_lo, procs_lo, evts_lo, keys_lo, Go.Ev.runFunc, Go.Ev.exec, Go.Ev.evOpers, Go.Ev.evOper, Go.Ev.item_op, Go.Ev.item_P, Go.Ev.evOp, Go.Ev.evs, Go.Ev.Opnd.ev, Go.Ev.Env.get, Go.Ev.Env.set, Go.Ev.look, Go.Ev.argVars, Go.Ev.cellsAt, Go.Ev.loadC, Go.Ev.AV.cells, Go.Ev.plains, Go.Ev.AV.plain, Go.Ev.bin_gtr, Go.Ev.resVals, Go.Ev.resVal, Go.Ev.resOf, Go.Ev.kill, Go.Ev.leave, Go.Ev.storeLo, Go.Ev.lo_v, Go.Ev.lo_agg, Go.Ev.lo_fsl, Go.Ev.los_nil, Go.Ev.los_cons, Go.Ev.frz_lo, List.length_map, ↓Go.Ev.obind, ↓reduceIte, List.length_cons, List.length_nil, List.getElem?_cons_zero, List.getElem?_cons_succ, List.take_succ_cons, List.take_zero, List.take_nil, List.drop_succ_cons, List.drop_zero, List.drop_nil, List.cons_append, List.nil_append, List.append_nil, List.set_cons_zero, List.set_cons_succ, List.head?_cons, Nat.reduceAdd, Nat.reduceEqDiff, reduceCtorEq, decide_false, Bool.and_self, Bool.not_true, Bool.false_eq_true, and_self, ne_eq, not_false_eq_true, List.cons_ne_nil, Nat.zero_add, Nat.le_refl, eq_self, beq_self_eq_true]
theorem law_ProcessDead (c : Cfg) (raw : Lp) (r : Evt) :
    callZ (evL T) n_law20_ProcessDead [(.agg [(.fsl ((c.lps).map lpC) false), (.fsl ((c.progs).map progC) false), (.v (.int .i64 (c.look))), (.v (.int .i64 (c.fin))), (.v (.int .i64 (c.cap)))]), (.agg [(.v (.int .i64 (raw.r0))), (.v (.int .i64 (raw.r1))), (.fsl ((raw.procs).map Pr.r) false), (.v (.int .i64 (raw.sum)))]), (.agg [(.v (.int .i64 (r.time))), (.fsl ((r.key).map intC) false), (.v (.int .i64 (r.lp))), (.v (.int .i64 (r.kind))), (.v (.int .i64 (r.proc))), (.v (.int .i64 (r.arg)))])] = some (.v (.bool (true))) := by
  have hh := law20_head_ev
  have ho := law20_ok_ev c
  cases hb : okB c with
  | false =>
    rw [hb] at ho
    rw [callZ, evL_code ext_law20_ProcessDead code_law20_ProcessDead]
    simp only [c_law20_ProcessDead, hh, ho, lps_lo, progs_lo, Go.Ev.runFunc, Go.Ev.exec, Go.Ev.evOpers, Go.Ev.evOper, Go.Ev.item_op, Go.Ev.item_P, Go.Ev.evOp, Go.Ev.evs, Go.Ev.Opnd.ev, Go.Ev.Env.get, Go.Ev.Env.set, Go.Ev.Env.unset, Go.Ev.look, Go.Ev.argVars, Go.Ev.cellsAt, Go.Ev.loadC, Go.Ev.AV.cells, Go.Ev.plains, Go.Ev.AV.plain, Go.Ev.resVals, Go.Ev.resVal, Go.Ev.resOf, Go.Ev.kill, Go.Ev.leave, Go.Ev.storeLo, Go.Ev.lo_v, Go.Ev.lo_agg, Go.Ev.lo_fsl, Go.Ev.los_nil, Go.Ev.los_cons, Go.Ev.frz_lo, ↓Go.Ev.obind, ↓reduceIte, List.length_cons, List.length_nil, List.take_succ_cons, List.take_nil, Nat.reduceAdd, Nat.reduceEqDiff, reduceCtorEq, Bool.and_self, Bool.not_false, Bool.true_eq_false, and_self, ne_eq, not_false_eq_true, List.cons_ne_nil, Nat.zero_add, Nat.le_refl, eq_self]
  | true =>
  rw [hb] at ho
  have hv := okB_iff hb
  by_cases h1 : (raw.procs.length : Int) > 20
  · rw [callZ, evL_code ext_law20_ProcessDead code_law20_ProcessDead]
    simp only [c_law20_ProcessDead, hh, ho, h1, lps_lo, progs_lo, Go.Ev.runFunc, Go.Ev.exec, Go.Ev.evOpers, Go.Ev.evOper, Go.Ev.item_op, Go.Ev.item_P, Go.Ev.evOp, Go.Ev.evs, Go.Ev.Opnd.ev, Go.Ev.Env.get, Go.Ev.Env.set, Go.Ev.look, Go.Ev.argVars, Go.Ev.cellsAt, Go.Ev.loadC, Go.Ev.AV.cells, Go.Ev.plains, Go.Ev.AV.plain, Go.Ev.bin_gtr, Go.Ev.resVals, Go.Ev.resVal, Go.Ev.resOf, Go.Ev.kill, Go.Ev.leave, Go.Ev.storeLo, Go.Ev.lo_v, Go.Ev.lo_agg, Go.Ev.lo_fsl, Go.Ev.los_nil, Go.Ev.los_cons, Go.Ev.frz_lo, List.length_map, ↓Go.Ev.obind, ↓reduceIte, List.length_cons, List.length_nil, List.take_succ_cons, List.take_nil, List.drop_succ_cons, List.drop_zero, List.head?_cons, Nat.reduceAdd, Nat.reduceEqDiff, reduceCtorEq, decide_true, Bool.and_self, Bool.not_true, Bool.false_eq_true, and_self, ne_eq, not_false_eq_true, List.cons_ne_nil, Nat.zero_add, Nat.le_refl, eq_self]
  have v5 := law20_State_ev c raw hv
  have hs := stateL_proc hv raw
  have v6 := law20_Event_ev c (stateL c raw) r hv (fun q hq => ⟨(hs.2 q hq).1, (hs.2 q hq).2.1⟩) hs.1
  have hr := ready_of hv raw r
  generalize stateL c raw = x at *
  generalize eventE c x r = e at *
  have v7 := Exec_ev hr
  have sx := Lp.short_of (x := x) ⟨hr.len, fun q hq => by have := (hr.proc q hq).2.2.2.2; omega⟩
  by_cases k3 : e.kind = 3
  · have hx : execR c x e = ⟨⟨x.r0, x.r1, x.procs, w64 (x.sum + e.arg)⟩, [], [], false, true⟩ := by unfold execR; rw [if_pos k3]
    rw [hx] at v7
    have v9 := ref20_Equal_ev (⟨x.r0, x.r1, x.procs, w64 (x.sum + e.arg)⟩ : Lp) ⟨x.r0, x.r1, x.procs, w64 (x.sum + e.arg)⟩ ⟨sx.1, sx.2⟩ ⟨sx.1, sx.2⟩
    simp only [decide_true, List.map_nil, w64] at v9 v7
    simp only [k3] at v6 v7
    rw [callZ, evL_code ext_law20_ProcessDead code_law20_ProcessDead]
    simp only [c_law20_ProcessDead, hh, ho, h1, v5, v6, v7, v9, lps_lo, progs_lo, ints_lo, procs_lo, Go.Ev.runFunc, Go.Ev.exec, Go.Ev.evOpers, Go.Ev.evOper, Go.Ev.item_op, Go.Ev.item_P, Go.Ev.evOp, Go.Ev.evs, Go.Ev.Opnd.ev, Go.Ev.Env.get, Go.Ev.Env.set, Go.Ev.look, Go.Ev.argVars, Go.Ev.cellsAt, Go.Ev.loadC, Go.Ev.AV.cells, Go.Ev.AV.uc, Go.Ev.plains, Go.Ev.AV.plain, Go.Ev.bin_add, Go.Ev.bin_eql, Go.Ev.bin_gtr, Go.Ev.resVals, Go.Ev.resVal, Go.Ev.resOf, Go.Ev.kill, Go.Ev.leave, Go.Ev.storeLo, Go.Ev.lo_v, Go.Ev.lo_agg, Go.Ev.lo_fsl, Go.Ev.los_nil, Go.Ev.los_cons, Go.Ev.frz_lo, List.length_map, ↓Go.Ev.obind, ↓reduceIte, List.length_cons, List.length_nil, List.getElem?_cons_zero, List.getElem?_cons_succ, List.take_succ_cons, List.take_zero, List.take_nil, List.drop_succ_cons, List.drop_zero, List.drop_nil, List.cons_append, List.nil_append, List.append_nil, List.set_cons_zero, List.set_cons_succ, List.head?_cons, Nat.reduceAdd, Nat.reduceEqDiff, Int.cast_ofNat_Int, reduceCtorEq, decide_true, decide_false, Bool.and_self, Bool.not_true, Bool.not_false, Bool.false_eq_true, and_self, ne_eq, not_false_eq_true, List.cons_ne_nil, Nat.zero_add, Nat.le_refl, eq_self]
  cases ha : actsE x e with
  | none =>
    have hx : execR c x e = ⟨x, [], [], false, true⟩ := by unfold execR; rw [if_neg k3, ha]
    rw [hx] at v7
    have v9 := ref20_Equal_ev x x sx sx
    simp only [decide_true, List.map_nil] at v9 v7
    have key : ((e.kind = 1 ∨ e.kind = 2) ∧ 0 ≤ e.proc) → e.proc < (x.procs.length : Int) → ∀ q, x.procs[e.proc.toNat]? = some q → q.alive = false := by
      intro g1 g2 q hq
      unfold actsE at ha
      rw [if_pos g1, hq] at ha
      cases hqa : q.alive with
      | false => rfl
      | true => simp [hqa] at ha
    by_cases g1 : e.proc ≥ 0
    case neg =>
      by_cases k1 : e.kind = 1
      · simp only [k1] at v6 v7 k3
        rw [callZ, evL_code ext_law20_ProcessDead code_law20_ProcessDead]
        simp only [c_law20_ProcessDead, hh, ho, h1, k3, g1, v5, v6, v7, v9, lps_lo, progs_lo, ints_lo, procs_lo, Go.Ev.runFunc, Go.Ev.exec, Go.Ev.evOpers, Go.Ev.evOper, Go.Ev.item_op, Go.Ev.item_P, Go.Ev.evOp, Go.Ev.evs, Go.Ev.Opnd.ev, Go.Ev.Env.get, Go.Ev.Env.set, Go.Ev.Env.unset, Go.Ev.look, Go.Ev.argVars, Go.Ev.cellsAt, Go.Ev.loadC, Go.Ev.AV.cells, Go.Ev.plains, Go.Ev.AV.plain, Go.Ev.bin_eql, Go.Ev.bin_gtr, Go.Ev.bin_geq, Go.Ev.resVals, Go.Ev.resVal, Go.Ev.resOf, Go.Ev.kill, Go.Ev.leave, Go.Ev.storeLo, Go.Ev.lo_v, Go.Ev.lo_agg, Go.Ev.lo_fsl, Go.Ev.los_nil, Go.Ev.los_cons, Go.Ev.frz_lo, List.length_map, ↓Go.Ev.obind, ↓reduceIte, List.length_cons, List.length_nil, List.getElem?_cons_zero, List.getElem?_cons_succ, List.take_succ_cons, List.take_zero, List.take_nil, List.drop_succ_cons, List.drop_zero, List.drop_nil, List.cons_append, List.nil_append, List.append_nil, List.set_cons_zero, List.set_cons_succ, List.head?_cons, Nat.reduceAdd, Nat.reduceEqDiff, Int.cast_ofNat_Int, reduceCtorEq, decide_true, decide_false, Bool.and_self, Bool.not_true, Bool.not_false, Bool.false_eq_true, Bool.true_eq_false, and_self, ne_eq, not_false_eq_true, List.cons_ne_nil, Nat.zero_add, Nat.le_refl, eq_self]
      by_cases k2 : e.kind = 2
      · simp only [k2] at v6 v7 k3 k1
        rw [callZ, evL_code ext_law20_ProcessDead code_law20_ProcessDead]
        simp only [c_law20_ProcessDead, hh, ho, h1, k3, k1, g1, v5, v6, v7, v9, lps_lo, progs_lo, ints_lo, procs_lo, Go.Ev.runFunc, Go.Ev.exec, Go.Ev.evOpers, Go.Ev.evOper, Go.Ev.item_op, Go.Ev.item_P, Go.Ev.evOp, Go.Ev.evs, Go.Ev.Opnd.ev, Go.Ev.Env.get, Go.Ev.Env.set, Go.Ev.Env.unset, Go.Ev.look, Go.Ev.argVars, Go.Ev.cellsAt, Go.Ev.loadC, Go.Ev.AV.cells, Go.Ev.plains, Go.Ev.AV.plain, Go.Ev.bin_eql, Go.Ev.bin_gtr, Go.Ev.bin_geq, Go.Ev.resVals, Go.Ev.resVal, Go.Ev.resOf, Go.Ev.kill, Go.Ev.leave, Go.Ev.storeLo, Go.Ev.lo_v, Go.Ev.lo_agg, Go.Ev.lo_fsl, Go.Ev.los_nil, Go.Ev.los_cons, Go.Ev.frz_lo, List.length_map, ↓Go.Ev.obind, ↓reduceIte, List.length_cons, List.length_nil, List.getElem?_cons_zero, List.getElem?_cons_succ, List.take_succ_cons, List.take_zero, List.take_nil, List.drop_succ_cons, List.drop_zero, List.drop_nil, List.cons_append, List.nil_append, List.append_nil, List.set_cons_zero, List.set_cons_succ, List.head?_cons, Nat.reduceAdd, Nat.reduceEqDiff, Int.cast_ofNat_Int, reduceCtorEq, decide_true, decide_false, Bool.and_self, Bool.not_true, Bool.not_false, Bool.false_eq_true, and_self, ne_eq, not_false_eq_true, List.cons_ne_nil, Nat.zero_add, Nat.le_refl, eq_self]
      · rw [callZ, evL_code ext_law20_ProcessDead code_law20_ProcessDead]
        simp only [c_law20_ProcessDead, hh, ho, h1, k3, k1, k2, v5, v6, v7, v9, lps_lo, progs_lo, ints_lo, procs_lo, Go.Ev.runFunc, Go.Ev.exec, Go.Ev.evOpers, Go.Ev.evOper, Go.Ev.item_op, Go.Ev.item_P, Go.Ev.evOp, Go.Ev.evs, Go.Ev.Opnd.ev, Go.Ev.Env.get, Go.Ev.Env.set, Go.Ev.Env.unset, Go.Ev.look, Go.Ev.argVars, Go.Ev.cellsAt, Go.Ev.loadC, Go.Ev.AV.cells, Go.Ev.plains, Go.Ev.AV.plain, Go.Ev.bin_eql, Go.Ev.bin_gtr, Go.Ev.resVals, Go.Ev.resVal, Go.Ev.resOf, Go.Ev.kill, Go.Ev.leave, Go.Ev.storeLo, Go.Ev.lo_v, Go.Ev.lo_agg, Go.Ev.lo_fsl, Go.Ev.los_nil, Go.Ev.los_cons, Go.Ev.frz_lo, List.length_map, ↓Go.Ev.obind, ↓reduceIte, List.length_cons, List.length_nil, List.getElem?_cons_zero, List.getElem?_cons_succ, List.take_succ_cons, List.take_zero, List.take_nil, List.drop_succ_cons, List.drop_zero, List.drop_nil, List.cons_append, List.nil_append, List.append_nil, List.set_cons_zero, List.set_cons_succ, List.head?_cons, Nat.reduceAdd, Nat.reduceEqDiff, Int.cast_ofNat_Int, reduceCtorEq, decide_true, decide_false, Bool.and_self, Bool.not_true, Bool.not_false, Bool.false_eq_true, and_self, ne_eq, not_false_eq_true, List.cons_ne_nil, Nat.zero_add, Nat.le_refl, eq_self]
    by_cases g2 : e.proc < (x.procs.length : Int)
    case neg =>
      by_cases k1 : e.kind = 1
      · simp only [k1] at v6 v7 k3
        rw [callZ, evL_code ext_law20_ProcessDead code_law20_ProcessDead]
        simp only [c_law20_ProcessDead, hh, ho, h1, k3, g1, g2, v5, v6, v7, v9, lps_lo, progs_lo, ints_lo, procs_lo, Go.Ev.runFunc, Go.Ev.exec, Go.Ev.evOpers, Go.Ev.evOper, Go.Ev.item_op, Go.Ev.item_P, Go.Ev.evOp, Go.Ev.evs, Go.Ev.Opnd.ev, Go.Ev.Env.get, Go.Ev.Env.set, Go.Ev.Env.unset, Go.Ev.look, Go.Ev.argVars, Go.Ev.cellsAt, Go.Ev.loadC, Go.Ev.AV.cells, Go.Ev.plains, Go.Ev.AV.plain, Go.Ev.bin_eql, Go.Ev.bin_lss, Go.Ev.bin_gtr, Go.Ev.bin_geq, Go.Ev.resVals, Go.Ev.resVal, Go.Ev.resOf, Go.Ev.kill, Go.Ev.leave, Go.Ev.storeLo, Go.Ev.lo_v, Go.Ev.lo_agg, Go.Ev.lo_fsl, Go.Ev.los_nil, Go.Ev.los_cons, Go.Ev.frz_lo, List.length_map, ↓Go.Ev.obind, ↓reduceIte, List.length_cons, List.length_nil, List.getElem?_cons_zero, List.getElem?_cons_succ, List.take_succ_cons, List.take_zero, List.take_nil, List.drop_succ_cons, List.drop_zero, List.drop_nil, List.cons_append, List.nil_append, List.append_nil, List.set_cons_zero, List.set_cons_succ, List.head?_cons, Nat.reduceAdd, Nat.reduceEqDiff, Int.cast_ofNat_Int, reduceCtorEq, decide_true, decide_false, Bool.and_self, Bool.not_true, Bool.not_false, Bool.false_eq_true, Bool.true_eq_false, and_self, ne_eq, not_false_eq_true, List.cons_ne_nil, Nat.zero_add, Nat.le_refl, eq_self]
      by_cases k2 : e.kind = 2
      · simp only [k2] at v6 v7 k3 k1
        rw [callZ, evL_code ext_law20_ProcessDead code_law20_ProcessDead]
        simp only [c_law20_ProcessDead, hh, ho, h1, k3, k1, g1, g2, v5, v6, v7, v9, lps_lo, progs_lo, ints_lo, procs_lo, Go.Ev.runFunc, Go.Ev.exec, Go.Ev.evOpers, Go.Ev.evOper, Go.Ev.item_op, Go.Ev.item_P, Go.Ev.evOp, Go.Ev.evs, Go.Ev.Opnd.ev, Go.Ev.Env.get, Go.Ev.Env.set, Go.Ev.Env.unset, Go.Ev.look, Go.Ev.argVars, Go.Ev.cellsAt, Go.Ev.loadC, Go.Ev.AV.cells, Go.Ev.plains, Go.Ev.AV.plain, Go.Ev.bin_eql, Go.Ev.bin_lss, Go.Ev.bin_gtr, Go.Ev.bin_geq, Go.Ev.resVals, Go.Ev.resVal, Go.Ev.resOf, Go.Ev.kill, Go.Ev.leave, Go.Ev.storeLo, Go.Ev.lo_v, Go.Ev.lo_agg, Go.Ev.lo_fsl, Go.Ev.los_nil, Go.Ev.los_cons, Go.Ev.frz_lo, List.length_map, ↓Go.Ev.obind, ↓reduceIte, List.length_cons, List.length_nil, List.getElem?_cons_zero, List.getElem?_cons_succ, List.take_succ_cons, List.take_zero, List.take_nil, List.drop_succ_cons, List.drop_zero, List.drop_nil, List.cons_append, List.nil_append, List.append_nil, List.set_cons_zero, List.set_cons_succ, List.head?_cons, Nat.reduceAdd, Nat.reduceEqDiff, Int.cast_ofNat_Int, reduceCtorEq, decide_true, decide_false, Bool.and_self, Bool.not_true, Bool.not_false, Bool.false_eq_true, and_self, ne_eq, not_false_eq_true, List.cons_ne_nil, Nat.zero_add, Nat.le_refl, eq_self]
      · rw [callZ, evL_code ext_law20_ProcessDead code_law20_ProcessDead]
        simp only [c_law20_ProcessDead, hh, ho, h1, k3, k1, k2, v5, v6, v7, v9, lps_lo, progs_lo, ints_lo, procs_lo, Go.Ev.runFunc, Go.Ev.exec, Go.Ev.evOpers, Go.Ev.evOper, Go.Ev.item_op, Go.Ev.item_P, Go.Ev.evOp, Go.Ev.evs, Go.Ev.Opnd.ev, Go.Ev.Env.get, Go.Ev.Env.set, Go.Ev.Env.unset, Go.Ev.look, Go.Ev.argVars, Go.Ev.cellsAt, Go.Ev.loadC, Go.Ev.AV.cells, Go.Ev.plains, Go.Ev.AV.plain, Go.Ev.bin_eql, Go.Ev.bin_gtr, Go.Ev.resVals, Go.Ev.resVal, Go.Ev.resOf, Go.Ev.kill, Go.Ev.leave, Go.Ev.storeLo, Go.Ev.lo_v, Go.Ev.lo_agg, Go.Ev.lo_fsl, Go.Ev.los_nil, Go.Ev.los_cons, Go.Ev.frz_lo, List.length_map, ↓Go.Ev.obind, ↓reduceIte, List.length_cons, List.length_nil, List.getElem?_cons_zero, List.getElem?_cons_succ, List.take_succ_cons, List.take_zero, List.take_nil, List.drop_succ_cons, List.drop_zero, List.drop_nil, List.cons_append, List.nil_append, List.append_nil, List.set_cons_zero, List.set_cons_succ, List.head?_cons, Nat.reduceAdd, Nat.reduceEqDiff, Int.cast_ofNat_Int, reduceCtorEq, decide_true, decide_false, Bool.and_self, Bool.not_true, Bool.not_false, Bool.false_eq_true, and_self, ne_eq, not_false_eq_true, List.cons_ne_nil, Nat.zero_add, Nat.le_refl, eq_self]
    have g3 : 0 ≤ e.proc := g1
    obtain ⟨q, hq⟩ : ∃ q, x.procs[e.proc.toNat]? = some q := ⟨_, List.getElem?_eq_getElem (by omega)⟩
    by_cases k1 : e.kind = 1
    · have hal := key ⟨.inl k1, g1⟩ g2 q hq
      simp only [k1] at v6 v7 k3
      rw [callZ, evL_code ext_law20_ProcessDead code_law20_ProcessDead]
      simp only [c_law20_ProcessDead, hh, ho, h1, k3, g1, g2, hq, hal, v5, v6, v7, v9, Pr.r, List.getElem?_map, Option.map_some, lps_lo, progs_lo, ints_lo, procs_lo, Go.Ev.runFunc, Go.Ev.exec, Go.Ev.evOpers, Go.Ev.evOper, Go.Ev.item_op, Go.Ev.item_P, Go.Ev.evOp, Go.Ev.evs, Go.Ev.Opnd.ev, Go.Ev.Env.get, Go.Ev.Env.set, Go.Ev.Env.unset, Go.Ev.look, Go.Ev.argVars, Go.Ev.cellsAt, Go.Ev.loadC, Go.Ev.AV.cells, Go.Ev.plains, Go.Ev.AV.plain, Go.Ev.bin_eql, Go.Ev.bin_lss, Go.Ev.bin_gtr, Go.Ev.bin_geq, Go.Ev.resVals, Go.Ev.resVal, Go.Ev.resOf, Go.Ev.kill, Go.Ev.leave, Go.Ev.storeLo, Go.Ev.lo_v, Go.Ev.lo_agg, Go.Ev.lo_fsl, Go.Ev.los_nil, Go.Ev.los_cons, Go.Ev.frz_lo, List.length_map, ↓Go.Ev.obind, ↓reduceIte, List.length_cons, List.length_nil, List.getElem?_cons_zero, List.getElem?_cons_succ, List.take_succ_cons, List.take_zero, List.take_nil, List.drop_succ_cons, List.drop_zero, List.drop_nil, List.cons_append, List.nil_append, List.append_nil, List.set_cons_zero, List.set_cons_succ, List.head?_cons, Nat.reduceAdd, Nat.reduceEqDiff, Int.cast_ofNat_Int, reduceCtorEq, decide_true, decide_false, Bool.and_self, Bool.not_true, Bool.not_false, Bool.false_eq_true, Bool.true_eq_false, and_self, ne_eq, not_false_eq_true, List.cons_ne_nil, Nat.zero_add, Nat.le_refl, eq_self]
    by_cases k2 : e.kind = 2
    · have hal := key ⟨.inr k2, g1⟩ g2 q hq
      simp only [k2] at v6 v7 k3 k1
      rw [callZ, evL_code ext_law20_ProcessDead code_law20_ProcessDead]
      simp only [c_law20_ProcessDead, hh, ho, h1, k3, k1, g1, g2, hq, hal, v5, v6, v7, v9, Pr.r, List.getElem?_map, Option.map_some, lps_lo, progs_lo, ints_lo, procs_lo, Go.Ev.runFunc, Go.Ev.exec, Go.Ev.evOpers, Go.Ev.evOper, Go.Ev.item_op, Go.Ev.item_P, Go.Ev.evOp, Go.Ev.evs, Go.Ev.Opnd.ev, Go.Ev.Env.get, Go.Ev.Env.set, Go.Ev.look, Go.Ev.argVars, Go.Ev.cellsAt, Go.Ev.loadC, Go.Ev.AV.cells, Go.Ev.plains, Go.Ev.AV.plain, Go.Ev.bin_eql, Go.Ev.bin_lss, Go.Ev.bin_gtr, Go.Ev.bin_geq, Go.Ev.resVals, Go.Ev.resVal, Go.Ev.resOf, Go.Ev.kill, Go.Ev.leave, Go.Ev.storeLo, Go.Ev.lo_v, Go.Ev.lo_agg, Go.Ev.lo_fsl, Go.Ev.los_nil, Go.Ev.los_cons, Go.Ev.frz_lo, List.length_map, ↓Go.Ev.obind, ↓reduceIte, List.length_cons, List.length_nil, List.getElem?_cons_zero, List.getElem?_cons_succ, List.take_succ_cons, List.take_zero, List.take_nil, List.drop_succ_cons, List.drop_zero, List.drop_nil, List.cons_append, List.nil_append, List.append_nil, List.set_cons_zero, List.set_cons_succ, List.head?_cons, Nat.reduceAdd, Nat.reduceEqDiff, Int.cast_ofNat_Int, reduceCtorEq, decide_true, decide_false, Bool.and_self, Bool.not_true, Bool.not_false, Bool.false_eq_true, and_self, ne_eq, not_false_eq_true, List.cons_ne_nil, Nat.zero_add, Nat.le_refl, eq_self]
    · rw [callZ, evL_code ext_law20_ProcessDead code_law20_ProcessDead]
      simp only [c_law20_ProcessDead, hh, ho, h1, k3, k1, k2, v5, v6, v7, v9, lps_lo, progs_lo, ints_lo, procs_lo, Go.Ev.runFunc, Go.Ev.exec, Go.Ev.evOpers, Go.Ev.evOper, Go.Ev.item_op, Go.Ev.item_P, Go.Ev.evOp, Go.Ev.evs, Go.Ev.Opnd.ev, Go.Ev.Env.get, Go.Ev.Env.set, Go.Ev.Env.unset, Go.Ev.look, Go.Ev.argVars, Go.Ev.cellsAt, Go.Ev.loadC, Go.Ev.AV.cells, Go.Ev.plains, Go.Ev.AV.plain, Go.Ev.bin_eql, Go.Ev.bin_gtr, Go.Ev.resVals, Go.Ev.resVal, Go.Ev.resOf, Go.Ev.kill, Go.Ev.leave, Go.Ev.storeLo, Go.Ev.lo_v, Go.Ev.lo_agg, Go.Ev.lo_fsl, Go.Ev.los_nil, Go.Ev.los_cons, Go.Ev.frz_lo, List.length_map, ↓Go.Ev.obind, ↓reduceIte, List.length_cons, List.length_nil, List.getElem?_cons_zero, List.getElem?_cons_succ, List.take_succ_cons, List.take_zero, List.take_nil, List.drop_succ_cons, List.drop_zero, List.drop_nil, List.cons_append, List.nil_append, List.append_nil, List.set_cons_zero, List.set_cons_succ, List.head?_cons, Nat.reduceAdd, Nat.reduceEqDiff, Int.cast_ofNat_Int, reduceCtorEq, decide_true, decide_false, Bool.and_self, Bool.not_true, Bool.not_false, Bool.false_eq_true, and_self, ne_eq, not_false_eq_true, List.cons_ne_nil, Nat.zero_add, Nat.le_refl, eq_self]
  | some q =>
    obtain ⟨a1, a2, a3, a4⟩ := acts_some ha
    have g1 : e.proc ≥ 0 := a2
    have g2 : e.proc < (x.procs.length : Int) := by have := (List.getElem?_eq_some_iff.1 a3).1; omega
    generalize execR c x e = R at *
    rcases a1 with k1 | k2
    · simp only [k1] at v6 v7 k3
      rw [callZ, evL_code ext_law20_ProcessDead code_law20_ProcessDead]
      simp only [c_law20_ProcessDead, hh, ho, h1, k3, g1, g2, a3, a4, v5, v6, v7, Pr.r, List.getElem?_map, Option.map_some, lps_lo, progs_lo, ints_lo, procs_lo, Go.Ev.runFunc, Go.Ev.exec, Go.Ev.evOpers, Go.Ev.evOper, Go.Ev.item_op, Go.Ev.item_P, Go.Ev.evOp, Go.Ev.evs, Go.Ev.Opnd.ev, Go.Ev.Env.get, Go.Ev.Env.set, Go.Ev.Env.unset, Go.Ev.look, Go.Ev.argVars, Go.Ev.cellsAt, Go.Ev.loadC, Go.Ev.AV.cells, Go.Ev.plains, Go.Ev.AV.plain, Go.Ev.bin_eql, Go.Ev.bin_lss, Go.Ev.bin_gtr, Go.Ev.bin_geq, Go.Ev.resVals, Go.Ev.resVal, Go.Ev.resOf, Go.Ev.kill, Go.Ev.leave, Go.Ev.storeLo, Go.Ev.lo_v, Go.Ev.lo_agg, Go.Ev.lo_fsl, Go.Ev.los_nil, Go.Ev.los_cons, Go.Ev.frz_lo, List.length_map, ↓Go.Ev.obind, ↓reduceIte, List.length_cons, List.length_nil, List.getElem?_cons_zero, List.getElem?_cons_succ, List.take_succ_cons, List.take_zero, List.take_nil, List.drop_succ_cons, List.drop_zero, List.drop_nil, List.cons_append, List.nil_append, List.append_nil, List.set_cons_zero, List.set_cons_succ, List.head?_cons, Nat.reduceAdd, Nat.reduceEqDiff, reduceCtorEq, decide_true, decide_false, Bool.and_self, Bool.not_true, Bool.false_eq_true, Bool.true_eq_false, and_self, ne_eq, not_false_eq_true, List.cons_ne_nil, Nat.zero_add, Nat.le_refl, eq_self]
    · have k1 : ¬ (2 : Int) = 1 := by decide
      simp only [k2] at v6 v7 k3
      rw [callZ, evL_code ext_law20_ProcessDead code_law20_ProcessDead]
      simp only [c_law20_ProcessDead, hh, ho, h1, k3, k1, g1, g2, a3, a4, v5, v6, v7, Pr.r, List.getElem?_map, Option.map_some, lps_lo, progs_lo, ints_lo, procs_lo, Go.Ev.runFunc, Go.Ev.exec, Go.Ev.evOpers, Go.Ev.evOper, Go.Ev.item_op, Go.Ev.item_P, Go.Ev.evOp, Go.Ev.evs, Go.Ev.Opnd.ev, Go.Ev.Env.get, Go.Ev.Env.set, Go.Ev.look, Go.Ev.argVars, Go.Ev.cellsAt, Go.Ev.loadC, Go.Ev.AV.cells, Go.Ev.plains, Go.Ev.AV.plain, Go.Ev.bin_eql, Go.Ev.bin_lss, Go.Ev.bin_gtr, Go.Ev.bin_geq, Go.Ev.resVals, Go.Ev.resVal, Go.Ev.resOf, Go.Ev.kill, Go.Ev.leave, Go.Ev.storeLo, Go.Ev.lo_v, Go.Ev.lo_agg, Go.Ev.lo_fsl, Go.Ev.los_nil, Go.Ev.los_cons, Go.Ev.frz_lo, List.length_map, ↓Go.Ev.obind, ↓reduceIte, List.length_cons, List.length_nil, List.getElem?_cons_zero, List.getElem?_cons_succ, List.take_succ_cons, List.take_zero, List.take_nil, List.drop_succ_cons, List.drop_zero, List.drop_nil, List.cons_append, List.nil_append, List.append_nil, List.set_cons_zero, List.set_cons_succ, List.head?_cons, Nat.reduceAdd, Nat.reduceEqDiff, reduceCtorEq, decide_true, decide_false, Bool.and_self, Bool.not_true, Bool.false_eq_true, and_self, ne_eq, not_false_eq_true, List.cons_ne_nil, Nat.zero_add, Nat.le_refl, eq_self]
end Go.Proofs.Ytdpeepljabbcfaa.K
