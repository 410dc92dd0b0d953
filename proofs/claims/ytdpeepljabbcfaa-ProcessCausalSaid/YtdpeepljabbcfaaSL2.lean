/- Part of the proofs about this seat's program (module SL2). -/
import Derived.Test.YtdpeepljabbcfaaSHead
import Derived.Test.YtdpeepljabbcfaaCRuns
set_option linter.unusedSectionVars false
set_option linter.unusedSimpArgs false
set_option linter.unusedVariables false
namespace Go.Proofs.Ytdpeepljabbcfaa.K
open Go.Ev
set_option linter.unusedSimpArgs false
set_option linter.unusedVariables false
set_option maxRecDepth 10000
section
variable (c : Cfg) (x y : Lp) (e : Evt) (out : List Evt) (nl : Bool)
theorem causal_loop (X : Ex) (he : 0 ≤ e.time ∧ e.time ≤ 1152921504606846976) (hk : e.key.length ≤ 20) (ho : ∀ k ev, out[k]? = some ev → EvOk c e X k ev) (hl : out.length ≤ 16) (hlook : 1 ≤ c.look)
    (hinc : ∀ k ev ev', out[k]? = some ev → out[k + 1]? = some ev' → ∃ m m', ev.key = e.key ++ [m] ∧ ev'.key = e.key ++ [m'] ∧ m < m') :
    ∃ z, itB (exec (evL T) itL none c_law20_ProcessCausal_L1) (Ev.settle [3, 7, 9, 11, 14] true 3) ⟨[(3, (.fptr [(.fsl ((c.lps).map lpC) false), (.fsl ((c.progs).map progC) false), (.v (.int .i64 (c.look))), (.v (.int .i64 (c.fin))), (.v (.int .i64 (c.cap)))])), (7, (.v (.bool (true)))), (9, .ptr 1 0 0 0), (11, (.fsl ((out).map Evt.r) nl)), (14, (.v (.int .i64 (0))))], []⟩ [.row 4 [[(.v (.int .i64 (x.r0))), (.v (.int .i64 (x.r1))), (.fsl ((x.procs).map Pr.r) false), (.v (.int .i64 (x.sum)))]] 0, .row 6 [[(.v (.int .i64 (e.time))), (.fsl ((e.key).map intC) false), (.v (.int .i64 (e.lp))), (.v (.int .i64 (e.kind))), (.v (.int .i64 (e.proc))), (.v (.int .i64 (e.arg)))]] 0, .row 4 [[(.v (.int .i64 (y.r0))), (.v (.int .i64 (y.r1))), (.fsl ((y.procs).map Pr.r) false), (.v (.int .i64 (y.sum)))]] 0] = some z ∧ (z.1 = .exit 0 ∧ z.2.1.marks = [] ∧ z.2.2 = [.row 4 [[(.v (.int .i64 (x.r0))), (.v (.int .i64 (x.r1))), (.fsl ((x.procs).map Pr.r) false), (.v (.int .i64 (x.sum)))]] 0, .row 6 [[(.v (.int .i64 (e.time))), (.fsl ((e.key).map intC) false), (.v (.int .i64 (e.lp))), (.v (.int .i64 (e.kind))), (.v (.int .i64 (e.proc))), (.v (.int .i64 (e.arg)))]] 0, .row 4 [[(.v (.int .i64 (y.r0))), (.v (.int .i64 (y.r1))), (.fsl ((y.procs).map Pr.r) false), (.v (.int .i64 (y.sum)))]] 0] ∧ Ev.look z.2.1.vars 7 = some (.v (.bool (true)))) := by
  refine itB_each out (fun i => ⟨[(3, (.fptr [(.fsl ((c.lps).map lpC) false), (.fsl ((c.progs).map progC) false), (.v (.int .i64 (c.look))), (.v (.int .i64 (c.fin))), (.v (.int .i64 (c.cap)))])), (7, (.v (.bool (true)))), (9, .ptr 1 0 0 0), (11, (.fsl ((out).map Evt.r) nl)), (14, (.v (.int .i64 (i))))], []⟩) [.row 4 [[(.v (.int .i64 (x.r0))), (.v (.int .i64 (x.r1))), (.fsl ((x.procs).map Pr.r) false), (.v (.int .i64 (x.sum)))]] 0, .row 6 [[(.v (.int .i64 (e.time))), (.fsl ((e.key).map intC) false), (.v (.int .i64 (e.lp))), (.v (.int .i64 (e.kind))), (.v (.int .i64 (e.proc))), (.v (.int .i64 (e.arg)))]] 0, .row 4 [[(.v (.int .i64 (y.r0))), (.v (.int .i64 (y.r1))), (.fsl ((y.procs).map Pr.r) false), (.v (.int .i64 (y.sum)))]] 0] (fun z => _) ?_ ?_
  · intro i ev hi hx
    have hi' : (i : Int) < (out.length : Int) := by omega
    have hw : IntKind.i64.wrap ((i : Int) + 1) = ((i + 1 : Nat) : Int) := by rw [w64_small (by omega) (by omega)]; simp
    obtain ⟨⟨t1, t2⟩, ⟨m, hm, hm1, hm2⟩, hmsg, hown⟩ := ho i ev hx
    have g1 : ¬ ev.time ≤ e.time := by omega
    have g2 : ¬ ev.time > 1152921504606846976 := by omega
    have g3 : (ev.key.length : Int) = (e.key.length : Int) + 1 := by rw [hm]; simp
    have g3n : ev.key.length = e.key.length + 1 := by rw [hm]; simp
    have g4 : IntKind.i64.wrap ((e.key.length : Int) + 1) = (e.key.length : Int) + 1 := w64_small (by omega) (by omega)
    have g5 : IntKind.i64.wrap ((e.key.length : Int) + 1 - 1) = (e.key.length : Int) := by rw [w64_small (by omega) (by omega)]; omega
    have g6 : (e.key.length : Int) ≤ (e.key.length : Int) + 1 := by omega
    have g7 : List.take e.key.length (ev.key.map intC) = e.key.map intC := by rw [hm, List.map_append, List.take_left' (by simp)]
    have g8 : ev.key[e.key.length]? = some m := by rw [hm]; simp
    have g9 : ¬ m < (i : Int) := by omega
    have hsk := SameKey_ev e.key e.key false false (by omega) (by omega)
    simp only [decide_true] at hsk
    have hcut : e.key.length ≤ e.key.length + 1 := by omega
    by_cases hi0 : (i : Int) > 0
    · obtain ⟨j, hij⟩ : ∃ j, i = j + 1 := ⟨i - 1, by omega⟩
      obtain ⟨ev0, hx0⟩ : ∃ ev0, out[j]? = some ev0 := ⟨_, List.getElem?_eq_getElem (by omega)⟩
      obtain ⟨m0, m1, q1, q2, q3⟩ := hinc j ev0 ev hx0 (by rw [← hij]; exact hx)
      have g10 : IntKind.i64.wrap ((i : Int) - 1) = (j : Int) := by rw [w64_small (by omega) (by omega)]; omega
      have hkz : keysZ ev0.key ev.key = -1 := by
        rw [q1, q2, keysZ_app]
        simp only [keysZ]
        rw [if_neg (by omega)]
        unfold cmpZ; rw [if_pos q3]
      have hck := CompareKeys_ev ev0.key ev.key false false (by rw [q1]; simp; omega) (by rw [q2]; simp; omega)
      rw [hkz] at hck
      have g11 : ¬ (-1 : Int) ≥ 0 := by decide
      have hi' := hi'
      by_cases h3 : ev.kind = 3
      · obtain ⟨s1, s2, s3, s4⟩ := hmsg h3
        have g12 : IntKind.i64.wrap (e.time + c.look) = e.time + c.look := w64_small (by omega) (by omega)
        have g13 : ¬ ev.time < e.time + c.look := by omega
        simp only [c_law20_ProcessCausal_L1, Int.natCast_nonneg, Int.toNat_natCast, List.getElem?_map, Option.map_some, hx, hx0, hi', hw, g1, g2, g3, g4, g5, g6, g7, g8, g9, g10, g11, g12, g13, hsk, hck, hi0, h3, Evt.r, ints_ok, intC, Int.le_refl, Nat.sub_zero, lps_lo, progs_lo, ints_lo, procs_lo, evts_lo, Nat.reduceLT, Go.Ev.exec, Go.Ev.evOpers, Go.Ev.evOper, Go.Ev.item_op, Go.Ev.item_P, Go.Ev.evOp, Go.Ev.evs, Go.Ev.Opnd.ev, Go.Ev.Env.get, Go.Ev.Env.set, Go.Ev.look, Go.Ev.optInt, Go.Ev.cellsAt, Go.Ev.loadC, Go.Ev.bin_add, Go.Ev.bin_sub, Go.Ev.bin_eql, Go.Ev.bin_neq, Go.Ev.bin_lss, Go.Ev.bin_leq, Go.Ev.bin_gtr, Go.Ev.bin_geq, Go.Ev.settle, Go.Ev.keep, Go.Ev.varsLo, Go.Ev.marksLo, Go.Ev.storeLo, Go.Ev.SObj.lo, Go.Ev.lo_v, Go.Ev.lo_fsl, Go.Ev.lo_fptr, Go.Ev.lo_ptr, Go.Ev.los_nil, Go.Ev.los_cons, Go.Ev.loss_nil, Go.Ev.loss_cons, List.length_map, ↓Go.Ev.obind, Go.Ev.it1, ↓reduceIte, List.length_cons, List.length_nil, List.getElem?_cons_zero, List.getElem?_cons_succ, List.take_succ_cons, List.take_nil, List.drop_succ_cons, List.drop_zero, List.head?_cons, Nat.reduceAdd, Nat.reduceEqDiff, Nat.reduceLT, Int.reduceToNat, Int.reduceNeg, decide_true, decide_false, Bool.and_self, Bool.not_true, Bool.false_eq_true, and_self, ne_eq, not_true_eq_false, Nat.zero_add, Nat.add_zero, Option.isSome_some, Option.isSome_none, eq_self, implies_true, Bool.false_and]
      · simp only [c_law20_ProcessCausal_L1, Int.natCast_nonneg, Int.toNat_natCast, List.getElem?_map, Option.map_some, hx, hx0, hi', hw, g1, g2, g3, g4, g5, g6, g7, g8, g9, g10, g11, hsk, hck, hi0, h3, Evt.r, ints_ok, intC, Int.le_refl, Nat.sub_zero, lps_lo, progs_lo, ints_lo, procs_lo, evts_lo, Nat.reduceLT, Go.Ev.exec, Go.Ev.evOpers, Go.Ev.evOper, Go.Ev.item_op, Go.Ev.item_P, Go.Ev.evOp, Go.Ev.evs, Go.Ev.Opnd.ev, Go.Ev.Env.get, Go.Ev.Env.set, Go.Ev.Env.unset, Go.Ev.look, Go.Ev.optInt, Go.Ev.cellsAt, Go.Ev.loadC, Go.Ev.bin_add, Go.Ev.bin_sub, Go.Ev.bin_eql, Go.Ev.bin_neq, Go.Ev.bin_lss, Go.Ev.bin_leq, Go.Ev.bin_gtr, Go.Ev.bin_geq, Go.Ev.settle, Go.Ev.keep, Go.Ev.varsLo, Go.Ev.marksLo, Go.Ev.storeLo, Go.Ev.SObj.lo, Go.Ev.lo_v, Go.Ev.lo_fsl, Go.Ev.lo_fptr, Go.Ev.lo_ptr, Go.Ev.los_nil, Go.Ev.los_cons, Go.Ev.loss_nil, Go.Ev.loss_cons, List.length_map, ↓Go.Ev.obind, Go.Ev.it1, ↓reduceIte, List.length_cons, List.length_nil, List.getElem?_cons_zero, List.getElem?_cons_succ, List.take_succ_cons, List.take_nil, List.drop_succ_cons, List.drop_zero, List.head?_cons, Nat.reduceAdd, Nat.reduceEqDiff, Nat.reduceLT, Int.reduceToNat, Int.reduceNeg, decide_true, decide_false, Bool.and_self, Bool.not_true, Bool.false_eq_true, and_self, ne_eq, not_true_eq_false, Nat.zero_add, Nat.add_zero, Option.isSome_some, Option.isSome_none, eq_self, implies_true, Bool.false_and]
    · by_cases h3 : ev.kind = 3
      · obtain ⟨s1, s2, s3, s4⟩ := hmsg h3
        have g12 : IntKind.i64.wrap (e.time + c.look) = e.time + c.look := w64_small (by omega) (by omega)
        have g13 : ¬ ev.time < e.time + c.look := by omega
        simp only [c_law20_ProcessCausal_L1, Int.natCast_nonneg, Int.toNat_natCast, List.getElem?_map, Option.map_some, hx, hi', hw, g1, g2, g3, g4, g5, g6, g7, g8, g9, g12, g13, hsk, hi0, h3, Evt.r, ints_ok, intC, Int.le_refl, Nat.sub_zero, lps_lo, progs_lo, ints_lo, procs_lo, evts_lo, Nat.reduceLT, Go.Ev.exec, Go.Ev.evOpers, Go.Ev.evOper, Go.Ev.item_op, Go.Ev.item_P, Go.Ev.evOp, Go.Ev.evs, Go.Ev.Opnd.ev, Go.Ev.Env.get, Go.Ev.Env.set, Go.Ev.Env.unset, Go.Ev.look, Go.Ev.optInt, Go.Ev.cellsAt, Go.Ev.loadC, Go.Ev.bin_add, Go.Ev.bin_sub, Go.Ev.bin_eql, Go.Ev.bin_neq, Go.Ev.bin_lss, Go.Ev.bin_leq, Go.Ev.bin_gtr, Go.Ev.settle, Go.Ev.keep, Go.Ev.varsLo, Go.Ev.marksLo, Go.Ev.storeLo, Go.Ev.SObj.lo, Go.Ev.lo_v, Go.Ev.lo_fsl, Go.Ev.lo_fptr, Go.Ev.lo_ptr, Go.Ev.los_nil, Go.Ev.los_cons, Go.Ev.loss_nil, Go.Ev.loss_cons, List.length_map, ↓Go.Ev.obind, Go.Ev.it1, ↓reduceIte, List.length_cons, List.length_nil, List.getElem?_cons_zero, List.getElem?_cons_succ, List.take_succ_cons, List.take_nil, List.drop_succ_cons, List.drop_zero, List.head?_cons, Nat.reduceAdd, Nat.reduceEqDiff, Nat.reduceLT, Int.reduceToNat, decide_true, decide_false, Bool.and_self, Bool.not_true, Bool.false_eq_true, and_self, ne_eq, not_true_eq_false, Nat.zero_add, Nat.add_zero, Option.isSome_some, Option.isSome_none, eq_self, implies_true, Bool.false_and]
      · simp only [c_law20_ProcessCausal_L1, Int.natCast_nonneg, Int.toNat_natCast, List.getElem?_map, Option.map_some, hx, hi', hw, g1, g2, g3, g4, g5, g6, g7, g8, g9, hsk, hi0, h3, Evt.r, ints_ok, intC, Int.le_refl, Nat.sub_zero, lps_lo, progs_lo, ints_lo, procs_lo, evts_lo, Nat.reduceLT, Go.Ev.exec, Go.Ev.evOpers, Go.Ev.evOper, Go.Ev.item_op, Go.Ev.item_P, Go.Ev.evOp, Go.Ev.evs, Go.Ev.Opnd.ev, Go.Ev.Env.get, Go.Ev.Env.set, Go.Ev.Env.unset, Go.Ev.look, Go.Ev.optInt, Go.Ev.cellsAt, Go.Ev.loadC, Go.Ev.bin_add, Go.Ev.bin_sub, Go.Ev.bin_eql, Go.Ev.bin_neq, Go.Ev.bin_lss, Go.Ev.bin_leq, Go.Ev.bin_gtr, Go.Ev.settle, Go.Ev.keep, Go.Ev.varsLo, Go.Ev.marksLo, Go.Ev.storeLo, Go.Ev.SObj.lo, Go.Ev.lo_v, Go.Ev.lo_fsl, Go.Ev.lo_fptr, Go.Ev.lo_ptr, Go.Ev.los_nil, Go.Ev.los_cons, Go.Ev.loss_nil, Go.Ev.loss_cons, List.length_map, ↓Go.Ev.obind, Go.Ev.it1, ↓reduceIte, List.length_cons, List.length_nil, List.getElem?_cons_zero, List.getElem?_cons_succ, List.take_succ_cons, List.take_nil, List.drop_succ_cons, List.drop_zero, List.head?_cons, Nat.reduceAdd, Nat.reduceEqDiff, Nat.reduceLT, Int.reduceToNat, decide_true, decide_false, Bool.and_self, Bool.not_true, Bool.false_eq_true, and_self, ne_eq, not_true_eq_false, Nat.zero_add, Nat.add_zero, Option.isSome_some, Option.isSome_none, eq_self, implies_true, Bool.false_and]
  · simp only [c_law20_ProcessCausal_L1, Int.lt_irrefl, Go.Ev.exec, Go.Ev.evOpers, Go.Ev.evOper, Go.Ev.item_op, Go.Ev.evOp, Go.Ev.Opnd.ev, Go.Ev.Env.get, Go.Ev.Env.set, Go.Ev.look, Go.Ev.bin_lss, List.length_map, ↓Go.Ev.obind, Go.Ev.it1, ↓reduceIte, Nat.reduceEqDiff, decide_false, Bool.false_eq_true, eq_self]
    exact ⟨_, rfl, rfl, rfl, rfl, rfl⟩
end
theorem law_ProcessCausal (c : Cfg) (raw : Lp) (r : Evt) : callZ (evL T) n_law20_ProcessCausal [(.agg [(.fsl ((c.lps).map lpC) false), (.fsl ((c.progs).map progC) false), (.v (.int .i64 (c.look))), (.v (.int .i64 (c.fin))), (.v (.int .i64 (c.cap)))]), (.agg [(.v (.int .i64 (raw.r0))), (.v (.int .i64 (raw.r1))), (.fsl ((raw.procs).map Pr.r) false), (.v (.int .i64 (raw.sum)))]), (.agg [(.v (.int .i64 (r.time))), (.fsl ((r.key).map intC) false), (.v (.int .i64 (r.lp))), (.v (.int .i64 (r.kind))), (.v (.int .i64 (r.proc))), (.v (.int .i64 (r.arg)))])] = some (.v (.bool (true))) := by
  have hh := law20_head_ev
  have ho := law20_ok_ev c
  cases hb : okB c with
  | false =>
    rw [hb] at ho
    rw [callZ, evL_code ext_law20_ProcessCausal code_law20_ProcessCausal]
    simp only [c_law20_ProcessCausal, hh, ho, lps_lo, progs_lo, Go.Ev.runFunc, Go.Ev.exec, Go.Ev.evOpers, Go.Ev.evOper, Go.Ev.item_op, Go.Ev.item_P, Go.Ev.evOp, Go.Ev.evs, Go.Ev.Opnd.ev, Go.Ev.Env.get, Go.Ev.Env.set, Go.Ev.Env.unset, Go.Ev.look, Go.Ev.argVars, Go.Ev.cellsAt, Go.Ev.loadC, Go.Ev.AV.cells, Go.Ev.plains, Go.Ev.AV.plain, Go.Ev.resVals, Go.Ev.resVal, Go.Ev.resOf, Go.Ev.kill, Go.Ev.leave, Go.Ev.storeLo, Go.Ev.lo_v, Go.Ev.lo_agg, Go.Ev.lo_fsl, Go.Ev.los_nil, Go.Ev.los_cons, Go.Ev.frz_lo, ↓Go.Ev.obind, ↓reduceIte, List.length_cons, List.length_nil, List.take_succ_cons, List.take_nil, Nat.reduceAdd, Nat.reduceEqDiff, reduceCtorEq, Bool.and_self, Bool.not_false, Bool.true_eq_false, and_self, ne_eq, not_false_eq_true, List.cons_ne_nil, Nat.zero_add, Nat.le_refl, eq_self]
  | true =>
  rw [hb] at ho
  have hv := okB_iff hb
  by_cases h1 : (raw.procs.length : Int) > 20
  · rw [callZ, evL_code ext_law20_ProcessCausal code_law20_ProcessCausal]
    simp only [c_law20_ProcessCausal, hh, ho, h1, lps_lo, progs_lo, Go.Ev.runFunc, Go.Ev.exec, Go.Ev.evOpers, Go.Ev.evOper, Go.Ev.item_op, Go.Ev.item_P, Go.Ev.evOp, Go.Ev.evs, Go.Ev.Opnd.ev, Go.Ev.Env.get, Go.Ev.Env.set, Go.Ev.look, Go.Ev.argVars, Go.Ev.cellsAt, Go.Ev.loadC, Go.Ev.AV.cells, Go.Ev.plains, Go.Ev.AV.plain, Go.Ev.bin_gtr, Go.Ev.resVals, Go.Ev.resVal, Go.Ev.resOf, Go.Ev.kill, Go.Ev.leave, Go.Ev.storeLo, Go.Ev.lo_v, Go.Ev.lo_agg, Go.Ev.lo_fsl, Go.Ev.los_nil, Go.Ev.los_cons, Go.Ev.frz_lo, List.length_map, ↓Go.Ev.obind, ↓reduceIte, List.length_cons, List.length_nil, List.take_succ_cons, List.take_nil, List.drop_succ_cons, List.drop_zero, List.head?_cons, Nat.reduceAdd, Nat.reduceEqDiff, reduceCtorEq, decide_true, Bool.and_self, Bool.not_true, Bool.false_eq_true, and_self, ne_eq, not_false_eq_true, List.cons_ne_nil, Nat.zero_add, Nat.le_refl, eq_self]
  have v5 := law20_State_ev c raw hv
  have hs := stateL_proc hv raw
  have v6 := law20_Event_ev c (stateL c raw) r hv (fun q hq => ⟨(hs.2 q hq).1, (hs.2 q hq).2.1⟩) hs.1
  have hr := ready_of hv raw r
  generalize stateL c raw = x at *
  generalize eventE c x r = e at *
  have v7 := Exec_ev hr
  obtain ⟨X, o1, o2, o3⟩ := hr.outs
  have z3 := hr.sizes.2.2.1
  have hti := hr.time
  have hke := hr.key
  generalize execR c x e = R at *
  obtain ⟨y, out, gone, over, nl⟩ := R
  dsimp only at *
  obtain ⟨⟨z, ee, σ⟩, k1, k2, k3, k4, k5⟩ := causal_loop c x y e out nl X hti hke o2 z3 hv.look o3
  simp only at k2 k3 k4
  subst k2 k4
  rw [callZ, evL_code ext_law20_ProcessCausal code_law20_ProcessCausal]
  simp only [c_law20_ProcessCausal, hh, ho, h1, v5, v6, v7, k1, k3, k5, lps_lo, progs_lo, ints_lo, procs_lo, evts_lo, Nat.reduceLT, Go.Ev.runFunc, Go.Ev.exec, Go.Ev.evOpers, Go.Ev.evOper, Go.Ev.item_op, Go.Ev.item_P, Go.Ev.evOp, Go.Ev.evs, Go.Ev.Opnd.ev, Go.Ev.Env.get, Go.Ev.Env.set, Go.Ev.look, Go.Ev.argVars, Go.Ev.cellsAt, Go.Ev.loadC, Go.Ev.AV.cells, Go.Ev.plains, Go.Ev.AV.plain, Go.Ev.bin_gtr, Go.Ev.resVals, Go.Ev.resVal, Go.Ev.resOf, Go.Ev.kill, Go.Ev.leave, Go.Ev.settle, Go.Ev.keep, Go.Ev.varsLo, Go.Ev.marksLo, Go.Ev.storeLo, Go.Ev.SObj.lo, Go.Ev.lo_v, Go.Ev.lo_agg, Go.Ev.lo_fsl, Go.Ev.lo_fptr, Go.Ev.lo_ptr, Go.Ev.los_nil, Go.Ev.los_cons, Go.Ev.loss_nil, Go.Ev.loss_cons, Go.Ev.frz_lo, List.length_map, ↓Go.Ev.obind, ↓Go.Ev.itL_itB, ↓reduceIte, List.length_cons, List.length_nil, List.getElem?_cons_zero, List.getElem?_cons_succ, List.take_succ_cons, List.take_zero, List.take_nil, List.drop_succ_cons, List.drop_zero, List.drop_nil, List.cons_append, List.nil_append, List.append_nil, List.set_cons_zero, List.set_cons_succ, List.head?_cons, Nat.reduceAdd, Nat.reduceEqDiff, Nat.reduceLT, reduceCtorEq, decide_true, decide_false, Bool.and_self, Bool.not_true, Bool.false_eq_true, and_self, ne_eq, not_false_eq_true, List.cons_ne_nil, Nat.zero_add, Nat.le_refl, eq_self]
end Go.Proofs.Ytdpeepljabbcfaa.K
