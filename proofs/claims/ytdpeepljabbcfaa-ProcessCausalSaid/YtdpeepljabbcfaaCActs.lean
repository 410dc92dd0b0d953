/- Part of the proofs about this seat's program (module CActs). -/
import Derived.Test.YtdpeepljabbcfaaCBase
set_option linter.unusedSectionVars false
set_option linter.unusedSimpArgs false
set_option linter.unusedVariables false
namespace Go.Proofs.Ytdpeepljabbcfaa.K
open Go.Ev
set_option linter.unusedSimpArgs false
set_option linter.unusedVariables false
set_option maxRecDepth 10000
/-- What an execution holds beside its own state: the state that it began with. -/
def tableL : List (Int × AV) := [(1, .fn (.func n_process_execution_hold) [] []), (2, .fn (.func n_process_execution_send) [] []), (3, .fn (.func n_process_execution_timer) [] []), (4, .fn (.func n_process_execution_stop) [] []), (5, .fn (.func n_process_execution_spawn) [] []), (6, .fn (.func n_process_execution_add) [] []), (7, .fn (.func n_process_execution_less) [] []), (8, .fn (.func n_process_execution_end) [] [])]
theorem loss_app (n : Nat) : ∀ (a b : List (List AV)), loss n (a ++ b) = (loss n a && loss n b)
  | [], b => by simp [loss_nil]
  | x :: a, b => by rw [List.cons_append, loss_cons, loss_cons, loss_app n a b, Bool.and_assoc]
theorem clone_ints_ev (l : List Int) (c : Bool) (h : l.length ≤ 1000) : (evL T).call n_slices_Clone_Lint_int [(.fsl ((l).map intC) c)] [] = some (.sl 0 0 0 l.length false, [.row 1 (l.map intC) 0]) := by
  have h' : l.length * 8 ≤ 140737488355328 := by omega
  rw [evL_ext ext_slices_Clone_Lint_int]
  simp only [cloneF, ints_lo, ints_ok, h', Nat.lt_add_one, Go.Ev.lo_fsl, Go.Ev.los_nil, Go.Ev.los_cons, List.length_map, ↓reduceIte, Nat.reducePow, Bool.and_self, and_self, Nat.lt_add_one, eq_self]
theorem evkey_Child_ev (l : List Int) (c : Bool) (n : Int) (h : l.length ≤ 1000) : callZ (evL T) n_evkey_Child [(.fsl ((l).map intC) c), (.v (.int .i64 (n)))] = some (.fsl ((l ++ [n]).map intC) false) := by
  have h' : (l.length + 1) * 8 ≤ 140737488355328 := by omega
  have htl : List.take l.length (l.map intC) = l.map intC := List.take_of_length_le (by simp)
  have htk : ∀ e : List AV, List.take (l.length + 1) (l.map intC ++ [e]) = l.map intC ++ [e] := fun e => List.take_of_length_le (by simp)
  have hr : (l ++ [n]).map intC = l.map intC ++ [[(.v (.int .i64 (n)))]] := by rw [List.map_append]; rfl
  rw [callZ, evL_code ext_evkey_Child code_evkey_Child]
  rw [hr]
  simp only [c_evkey_Child, clone_ints_ev l c h, h', htl, htk, loss_app, ints_lo, Go.Ev.runFunc, Go.Ev.exec, Go.Ev.evOpers, Go.Ev.evOper, Go.Ev.item_op, Go.Ev.item_A, Go.Ev.impO, Go.Ev.AV.shift, Go.Ev.evOp, Go.Ev.appE, Go.Ev.evs, Go.Ev.Opnd.ev, Go.Ev.Env.get, Go.Ev.Env.set, Go.Ev.look, Go.Ev.argVars, Go.Ev.content, Go.Ev.fillR, Go.Ev.AV.cells, Go.Ev.AV.uc, Go.Ev.plains, Go.Ev.AV.plain, Go.Ev.resVals, Go.Ev.resVal, Go.Ev.resOf, Go.Ev.kill, Go.Ev.leave, Go.Ev.storeLo, Go.Ev.lo_v, Go.Ev.lo_fsl, Go.Ev.lo_sl, Go.Ev.los_nil, Go.Ev.los_cons, Go.Ev.loss_nil, Go.Ev.loss_cons, Go.Ev.okRows_nil, Go.Ev.okRows_cons, Go.Ev.frz_own, Go.Ev.omap_los, Go.Ev.omap_nil, Go.Ev.omap_cons, Go.Ev.shiftss_lo, List.replicate_one, List.length_map, ↓Go.Ev.obind, ↓reduceIte, List.length_cons, List.length_nil, List.length_append, List.getElem?_cons_zero, List.take_zero, List.drop_zero, List.nil_append, List.set_cons_zero, Nat.reduceAdd, Nat.reduceEqDiff, Nat.reduceMul, Nat.reduceLT, Nat.reduceLeDiff, Nat.reducePow, reduceCtorEq, decide_true, decide_false, Bool.and_self, Bool.false_eq_true, and_self, and_true, ne_eq, not_false_eq_true, List.cons_ne_nil, Nat.zero_add, Nat.add_zero, Nat.lt_add_one, Nat.le_refl, eq_self]
section
variable (a0 a1 a2 : Int) (am : Nat) (x : Ex) (gp gc gg : Nat)
theorem self7_ev (i : Nat) (hi : x.ev.proc = i) (hp : i < x.procs.length) :
    (evL T).call n_process_execution_self [.ptr 5 0 0 0] [.row 4 [[(.v (.int .i64 (a0))), (.v (.int .i64 (a1))), .sl 2 0 0 am false, (.v (.int .i64 (a2)))]] 0, .row 4 [[(.v (.int .i64 (0))), (.v (.int .i64 (0))), .fsl [] false, (.v (.int .i64 (0)))]] 0, .row 4 ((x.procs).map Pr.r) gp, .row 6 ((x.out).map Evt.r) gc, .row 1 ((x.gone).map keyC) gg, .row 14 [[(.v (.int .i64 (x.r0))), (.v (.int .i64 (x.r1))), .sl 2 gp 0 x.procs.length false, (.v (.int .i64 (x.sum))), (.v (.int .i64 (x.ev.time))), (.fsl ((x.ev.key).map intC) false), (.v (.int .i64 (x.ev.lp))), (.v (.int .i64 (x.ev.kind))), (.v (.int .i64 (x.ev.proc))), (.v (.int .i64 (x.ev.arg))), .sl 3 gc 0 x.out.length false, (.v (.int .i64 (x.n))), .sl 4 gg 0 x.gone.length false, (.v (.bool (x.over)))]] 0, .mp .i64 tableL] = some (.ptr 2 gp i 0, [.row 4 [[(.v (.int .i64 (a0))), (.v (.int .i64 (a1))), .sl 2 0 0 am false, (.v (.int .i64 (a2)))]] 0, .row 4 [[(.v (.int .i64 (0))), (.v (.int .i64 (0))), .fsl [] false, (.v (.int .i64 (0)))]] 0, .row 4 ((x.procs).map Pr.r) gp, .row 6 ((x.out).map Evt.r) gc, .row 1 ((x.gone).map keyC) gg, .row 14 [[(.v (.int .i64 (x.r0))), (.v (.int .i64 (x.r1))), .sl 2 gp 0 x.procs.length false, (.v (.int .i64 (x.sum))), (.v (.int .i64 (x.ev.time))), (.fsl ((x.ev.key).map intC) false), (.v (.int .i64 (x.ev.lp))), (.v (.int .i64 (x.ev.kind))), (.v (.int .i64 (x.ev.proc))), (.v (.int .i64 (x.ev.arg))), .sl 3 gc 0 x.out.length false, (.v (.int .i64 (x.n))), .sl 4 gg 0 x.gone.length false, (.v (.bool (x.over)))]] 0, .mp .i64 tableL]) := by
  rw [evL_code ext_process_execution_self code_process_execution_self]
  simp only [c_process_execution_self, hi, hp, Int.natCast_nonneg, Int.toNat_natCast, ints_lo, procs_lo, evts_lo, keys_lo, Nat.reduceLT, Go.Ev.runFunc, Go.Ev.exec, Go.Ev.evOpers, Go.Ev.evOper, Go.Ev.item_op, Go.Ev.evOp, Go.Ev.Opnd.ev, Go.Ev.Env.get, Go.Ev.Env.set, Go.Ev.look, Go.Ev.argVars, Go.Ev.cellsAt, Go.Ev.loadC, Go.Ev.resVals, Go.Ev.resVal, Go.Ev.resOf, Go.Ev.kill, Go.Ev.leave, Go.Ev.storeLo, Go.Ev.SObj.lo, Go.Ev.lo_v, Go.Ev.lo_fsl, Go.Ev.lo_sl, Go.Ev.lo_ptr, Go.Ev.los_nil, Go.Ev.los_cons, Go.Ev.loss_nil, Go.Ev.loss_cons, ↓Go.Ev.obind, ↓reduceIte, List.length_cons, List.length_nil, List.getElem?_cons_zero, List.getElem?_cons_succ, List.take_succ_cons, List.take_nil, List.drop_succ_cons, List.drop_zero, List.head?_cons, Nat.reduceAdd, Nat.reduceEqDiff, Nat.reduceLT, reduceCtorEq, decide_true, Bool.and_self, Bool.false_eq_true, and_self, Nat.zero_add, Nat.add_zero, eq_self]
theorem own_ev (k p a : Int) : (evL T).call n_process_execution_own [.ptr 5 0 0 0, (.v (.int .i64 (k))), (.v (.int .i64 (p))), (.v (.int .i64 (a)))] [.row 4 [[(.v (.int .i64 (a0))), (.v (.int .i64 (a1))), .sl 2 0 0 am false, (.v (.int .i64 (a2)))]] 0, .row 4 [[(.v (.int .i64 (0))), (.v (.int .i64 (0))), .fsl [] false, (.v (.int .i64 (0)))]] 0, .row 4 ((x.procs).map Pr.r) gp, .row 6 ((x.out).map Evt.r) gc, .row 1 ((x.gone).map keyC) gg, .row 14 [[(.v (.int .i64 (x.r0))), (.v (.int .i64 (x.r1))), .sl 2 gp 0 x.procs.length false, (.v (.int .i64 (x.sum))), (.v (.int .i64 (x.ev.time))), (.fsl ((x.ev.key).map intC) false), (.v (.int .i64 (x.ev.lp))), (.v (.int .i64 (x.ev.kind))), (.v (.int .i64 (x.ev.proc))), (.v (.int .i64 (x.ev.arg))), .sl 3 gc 0 x.out.length false, (.v (.int .i64 (x.n))), .sl 4 gg 0 x.gone.length false, (.v (.bool (x.over)))]] 0, .mp .i64 tableL] = some (.agg [(.v (.int .i64 (0))), .fsl [] false, (.v (.int .i64 (x.ev.lp))), (.v (.int .i64 (k))), (.v (.int .i64 (p))), (.v (.int .i64 (a)))], [.row 4 [[(.v (.int .i64 (a0))), (.v (.int .i64 (a1))), .sl 2 0 0 am false, (.v (.int .i64 (a2)))]] 0, .row 4 [[(.v (.int .i64 (0))), (.v (.int .i64 (0))), .fsl [] false, (.v (.int .i64 (0)))]] 0, .row 4 ((x.procs).map Pr.r) gp, .row 6 ((x.out).map Evt.r) gc, .row 1 ((x.gone).map keyC) gg, .row 14 [[(.v (.int .i64 (x.r0))), (.v (.int .i64 (x.r1))), .sl 2 gp 0 x.procs.length false, (.v (.int .i64 (x.sum))), (.v (.int .i64 (x.ev.time))), (.fsl ((x.ev.key).map intC) false), (.v (.int .i64 (x.ev.lp))), (.v (.int .i64 (x.ev.kind))), (.v (.int .i64 (x.ev.proc))), (.v (.int .i64 (x.ev.arg))), .sl 3 gc 0 x.out.length false, (.v (.int .i64 (x.n))), .sl 4 gg 0 x.gone.length false, (.v (.bool (x.over)))]] 0, .mp .i64 tableL]) := by
  rw [evL_code ext_process_execution_own code_process_execution_own]
  simp only [c_process_execution_own, ints_lo, procs_lo, evts_lo, keys_lo, Nat.reduceLT, Nat.reduceLeDiff, Go.Ev.runFunc, Go.Ev.exec, Go.Ev.evOpers, Go.Ev.evOper, Go.Ev.item_op, Go.Ev.evOp, Go.Ev.Opnd.ev, Go.Ev.Env.get, Go.Ev.Env.set, Go.Ev.look, Go.Ev.argVars, Go.Ev.cellsAt, Go.Ev.loadC, Go.Ev.fillP, Go.Ev.AV.cells, Go.Ev.AV.uc, Go.Ev.plains, Go.Ev.AV.plain, Go.Ev.resVals, Go.Ev.resVal, Go.Ev.resOf, Go.Ev.kill, Go.Ev.leave, Go.Ev.storeLo, Go.Ev.SObj.lo, Go.Ev.lo_v, Go.Ev.lo_agg, Go.Ev.lo_fsl, Go.Ev.lo_sl, Go.Ev.los_nil, Go.Ev.los_cons, Go.Ev.loss_nil, Go.Ev.loss_cons, ↓Go.Ev.obind, ↓reduceIte, List.length_cons, List.length_nil, List.getElem?_cons_zero, List.getElem?_cons_succ, List.take_succ_cons, List.take_zero, List.take_nil, List.drop_succ_cons, List.drop_zero, List.drop_nil, List.cons_append, List.nil_append, List.append_nil, List.set_cons_zero, List.set_cons_succ, List.head?_cons, Nat.reduceAdd, Nat.reduceEqDiff, Nat.reduceLT, Nat.reduceLeDiff, reduceCtorEq, decide_true, Bool.and_self, Bool.false_eq_true, and_self, ne_eq, not_false_eq_true, List.cons_ne_nil, Nat.zero_add, Nat.le_refl, eq_self]
/-- How often the created events' slice has grown. -/
def createG (x : Ex) (d : Int) (gc : Nat) : Nat := if w64 (x.ev.time + d) > 1152921504606846976 then gc else gc + 1
theorem create_ev (h : x.Small) (d : Int) (t0 lp k p a : Int) (ks : List Int) :
    (evL T).call n_process_execution_create [.ptr 5 0 0 0, (.v (.int .i64 (d))), .agg [(.v (.int .i64 (t0))), (.fsl ((ks).map intC) false), (.v (.int .i64 (lp))), (.v (.int .i64 (k))), (.v (.int .i64 (p))), (.v (.int .i64 (a)))]] [.row 4 [[(.v (.int .i64 (a0))), (.v (.int .i64 (a1))), .sl 2 0 0 am false, (.v (.int .i64 (a2)))]] 0, .row 4 [[(.v (.int .i64 (0))), (.v (.int .i64 (0))), .fsl [] false, (.v (.int .i64 (0)))]] 0, .row 4 ((x.procs).map Pr.r) gp, .row 6 ((x.out).map Evt.r) gc, .row 1 ((x.gone).map keyC) gg, .row 14 [[(.v (.int .i64 (x.r0))), (.v (.int .i64 (x.r1))), .sl 2 gp 0 x.procs.length false, (.v (.int .i64 (x.sum))), (.v (.int .i64 (x.ev.time))), (.fsl ((x.ev.key).map intC) false), (.v (.int .i64 (x.ev.lp))), (.v (.int .i64 (x.ev.kind))), (.v (.int .i64 (x.ev.proc))), (.v (.int .i64 (x.ev.arg))), .sl 3 gc 0 x.out.length false, (.v (.int .i64 (x.n))), .sl 4 gg 0 x.gone.length false, (.v (.bool (x.over)))]] 0, .mp .i64 tableL] = some ((.fsl ((x.kid).map intC) false), [.row 4 [[(.v (.int .i64 (a0))), (.v (.int .i64 (a1))), .sl 2 0 0 am false, (.v (.int .i64 (a2)))]] 0, .row 4 [[(.v (.int .i64 (0))), (.v (.int .i64 (0))), .fsl [] false, (.v (.int .i64 (0)))]] 0, .row 4 (((x.create d ⟨t0, ks, lp, k, p, a⟩).procs).map Pr.r) gp, .row 6 (((x.create d ⟨t0, ks, lp, k, p, a⟩).out).map Evt.r) (createG x d gc), .row 1 (((x.create d ⟨t0, ks, lp, k, p, a⟩).gone).map keyC) gg, .row 14 [[(.v (.int .i64 ((x.create d ⟨t0, ks, lp, k, p, a⟩).r0))), (.v (.int .i64 ((x.create d ⟨t0, ks, lp, k, p, a⟩).r1))), .sl 2 gp 0 (x.create d ⟨t0, ks, lp, k, p, a⟩).procs.length false, (.v (.int .i64 ((x.create d ⟨t0, ks, lp, k, p, a⟩).sum))), (.v (.int .i64 ((x.create d ⟨t0, ks, lp, k, p, a⟩).ev.time))), (.fsl (((x.create d ⟨t0, ks, lp, k, p, a⟩).ev.key).map intC) false), (.v (.int .i64 ((x.create d ⟨t0, ks, lp, k, p, a⟩).ev.lp))), (.v (.int .i64 ((x.create d ⟨t0, ks, lp, k, p, a⟩).ev.kind))), (.v (.int .i64 ((x.create d ⟨t0, ks, lp, k, p, a⟩).ev.proc))), (.v (.int .i64 ((x.create d ⟨t0, ks, lp, k, p, a⟩).ev.arg))), .sl 3 (createG x d gc) 0 (x.create d ⟨t0, ks, lp, k, p, a⟩).out.length false, (.v (.int .i64 ((x.create d ⟨t0, ks, lp, k, p, a⟩).n))), .sl 4 gg 0 (x.create d ⟨t0, ks, lp, k, p, a⟩).gone.length false, (.v (.bool ((x.create d ⟨t0, ks, lp, k, p, a⟩).over)))]] 0, .mp .i64 tableL]) := by
  have hk := evkey_Child_ev x.ev.key false x.n h.key
  have hs : (x.out.length + 1) * 64 ≤ 140737488355328 := by have := h.out; omega
  have htl : List.take x.out.length (x.out.map Evt.r) = x.out.map Evt.r := List.take_of_length_le (by simp)
  have hlo : los 7 ([(.v (.int .i64 (x.r0))), (.v (.int .i64 (x.r1))), .sl 2 gp 0 x.procs.length false, (.v (.int .i64 (x.sum))), (.v (.int .i64 (x.ev.time))), (.fsl ((x.ev.key).map intC) false), (.v (.int .i64 (x.ev.lp))), (.v (.int .i64 (x.ev.kind))), (.v (.int .i64 (x.ev.proc))), (.v (.int .i64 (x.ev.arg))), .sl 3 gc 0 x.out.length false, (.v (.int .i64 (x.n))), .sl 4 gg 0 x.gone.length false, (.v (.bool (x.over)))]) = true := by simp only [ints_lo, Nat.reduceLT, Go.Ev.lo_v, Go.Ev.lo_fsl, Go.Ev.lo_sl, Go.Ev.los_nil, Go.Ev.los_cons, Nat.reduceLT, decide_true, Bool.and_self, eq_self]
  rw [evL_code ext_process_execution_create code_process_execution_create]
  unfold Ex.create createG Ex.kid
  by_cases ho : w64 (x.ev.time + d) > 1152921504606846976
  · have ho' : IntKind.i64.wrap (x.ev.time + d) > 1152921504606846976 := ho
    simp only [ho, if_true]
    simp only [c_process_execution_create, hk, ho', ints_lo, procs_lo, evts_lo, keys_lo, Nat.reduceLT, Nat.reduceLeDiff, Go.Ev.runFunc, Go.Ev.exec, Go.Ev.evOpers, Go.Ev.evOper, Go.Ev.item_op, Go.Ev.item_P, Go.Ev.evOp, Go.Ev.evs, Go.Ev.Opnd.ev, Go.Ev.Env.get, Go.Ev.Env.set, Go.Ev.look, Go.Ev.argVars, Go.Ev.cellsAt, Go.Ev.loadC, Go.Ev.AV.cells, Go.Ev.AV.uc, Go.Ev.plains, Go.Ev.AV.plain, Go.Ev.bin_add, Go.Ev.bin_gtr, Go.Ev.resVals, Go.Ev.resVal, Go.Ev.resOf, Go.Ev.kill, Go.Ev.leave, Go.Ev.storeLo, Go.Ev.SObj.lo, Go.Ev.lo_v, Go.Ev.lo_fsl, Go.Ev.lo_sl, Go.Ev.los_nil, Go.Ev.los_cons, Go.Ev.loss_nil, Go.Ev.loss_cons, ↓Go.Ev.obind, ↓reduceIte, List.length_cons, List.length_nil, List.getElem?_cons_zero, List.getElem?_cons_succ, List.take_succ_cons, List.take_zero, List.drop_succ_cons, List.drop_zero, List.drop_nil, List.cons_append, List.nil_append, List.append_nil, List.set_cons_zero, List.set_cons_succ, List.head?_cons, Nat.reduceAdd, Nat.reduceEqDiff, Nat.reduceLT, Nat.reduceLeDiff, reduceCtorEq, decide_true, Bool.and_self, Bool.false_eq_true, and_self, ne_eq, not_false_eq_true, List.cons_ne_nil, Nat.zero_add, Nat.add_zero, Nat.le_refl, eq_self]
    done
  · have ho' : ¬ IntKind.i64.wrap (x.ev.time + d) > 1152921504606846976 := ho
    simp only [ho, if_false]
    have hr : ∀ e : Evt, (x.out ++ [e]).map Evt.r = x.out.map Evt.r ++ [e.r] := fun e => by rw [List.map_append]; rfl
    simp only [c_process_execution_create, hk, ho', hs, htl, hr, loss_app, Evt.r, ints_lo, procs_lo, evts_lo, keys_lo, Nat.reduceLT, Nat.reduceLeDiff, Go.Ev.runFunc, Go.Ev.exec, Go.Ev.evOpers, Go.Ev.evOper, Go.Ev.item_op, Go.Ev.item_P, Go.Ev.evOp, Go.Ev.appE, Go.Ev.evs, Go.Ev.Opnd.ev, Go.Ev.Env.get, Go.Ev.Env.set, Go.Ev.look, Go.Ev.argVars, Go.Ev.cellsAt, Go.Ev.content, Go.Ev.loadC, Go.Ev.fillR, Go.Ev.AV.cells, Go.Ev.AV.uc, Go.Ev.plains, Go.Ev.AV.plain, Go.Ev.bin_add, Go.Ev.bin_gtr, Go.Ev.resVals, Go.Ev.resVal, Go.Ev.resOf, Go.Ev.kill, Go.Ev.leave, Go.Ev.storeLo, Go.Ev.SObj.lo, Go.Ev.lo_v, Go.Ev.lo_fsl, Go.Ev.lo_sl, Go.Ev.los_nil, Go.Ev.los_cons, Go.Ev.loss_nil, Go.Ev.loss_cons, Go.Ev.okRows_nil, Go.Ev.okRows_cons, List.replicate_one, List.length_map, ↓Go.Ev.obind, ↓reduceIte, List.length_cons, List.length_nil, List.length_append, List.getElem?_cons_zero, List.getElem?_cons_succ, List.take_succ_cons, List.take_zero, List.take_nil, List.drop_succ_cons, List.drop_zero, List.cons_append, List.nil_append, List.set_cons_zero, List.set_cons_succ, List.head?_cons, Nat.reduceAdd, Nat.reduceEqDiff, Nat.reduceMul, Nat.reduceLT, Nat.reduceLeDiff, Nat.reducePow, reduceCtorEq, decide_true, decide_false, Bool.and_self, Bool.false_eq_true, and_self, ne_eq, not_false_eq_true, List.cons_ne_nil, Nat.zero_add, Nat.add_zero, Nat.lt_add_one, Nat.le_refl, eq_self]
    done
end
end Go.Proofs.Ytdpeepljabbcfaa.K

namespace Go.Proofs.Ytdpeepljabbcfaa.K
open Go.Ev
set_option linter.unusedSimpArgs false
set_option linter.unusedVariables false
set_option maxRecDepth 10000
theorem eq_table : eqBm tableL tableL = true := by
  have h : decide (eqBm tableL tableL = true) = true := by kernel_rfl
  exact of_decide_eq_true h
/-- An event of the logical process that is executed. -/
def Ex.ownE (x : Ex) (k p a : Int) : Evt := ⟨0, [], x.ev.lp, k, p, a⟩
def Ex.setP (x : Ex) (i : Nat) (q : Pr) : Ex := { x with procs := x.procs.set i q }
def Ex.stopE (x : Ex) (i : Nat) (q : Pr) : Ex := if 0 < q.timer.length then { x with gone := x.gone ++ [q.timer], procs := x.procs.set i { q with timer := [] } } else x
section
variable (a0 a1 a2 : Int) (am : Nat) (x : Ex) (gp gc gg : Nat) (op : OpI)
theorem hold_ev (h : x.Small) : (evL T).call n_process_execution_hold [.ptr 5 0 0 0, (.agg [(.v (.int .i64 (op.code))), (.v (.int .i64 (op.a))), (.v (.int .i64 (op.b))), (.v (.int .i64 (op.c)))])] [.row 4 [[(.v (.int .i64 (a0))), (.v (.int .i64 (a1))), .sl 2 0 0 am false, (.v (.int .i64 (a2)))]] 0, .row 4 [[(.v (.int .i64 (0))), (.v (.int .i64 (0))), .fsl [] false, (.v (.int .i64 (0)))]] 0, .row 4 ((x.procs).map Pr.r) gp, .row 6 ((x.out).map Evt.r) gc, .row 1 ((x.gone).map keyC) gg, .row 14 [[(.v (.int .i64 (x.r0))), (.v (.int .i64 (x.r1))), .sl 2 gp 0 x.procs.length false, (.v (.int .i64 (x.sum))), (.v (.int .i64 (x.ev.time))), (.fsl ((x.ev.key).map intC) false), (.v (.int .i64 (x.ev.lp))), (.v (.int .i64 (x.ev.kind))), (.v (.int .i64 (x.ev.proc))), (.v (.int .i64 (x.ev.arg))), .sl 3 gc 0 x.out.length false, (.v (.int .i64 (x.n))), .sl 4 gg 0 x.gone.length false, (.v (.bool (x.over)))]] 0, .mp .i64 tableL] = some ((.v (.int .i64 (1))), [.row 4 [[(.v (.int .i64 (a0))), (.v (.int .i64 (a1))), .sl 2 0 0 am false, (.v (.int .i64 (a2)))]] 0, .row 4 [[(.v (.int .i64 (0))), (.v (.int .i64 (0))), .fsl [] false, (.v (.int .i64 (0)))]] 0, .row 4 (((x.create op.a (x.ownE 1 x.ev.proc 0)).procs).map Pr.r) gp, .row 6 (((x.create op.a (x.ownE 1 x.ev.proc 0)).out).map Evt.r) (createG x op.a gc), .row 1 (((x.create op.a (x.ownE 1 x.ev.proc 0)).gone).map keyC) gg, .row 14 [[(.v (.int .i64 ((x.create op.a (x.ownE 1 x.ev.proc 0)).r0))), (.v (.int .i64 ((x.create op.a (x.ownE 1 x.ev.proc 0)).r1))), .sl 2 gp 0 (x.create op.a (x.ownE 1 x.ev.proc 0)).procs.length false, (.v (.int .i64 ((x.create op.a (x.ownE 1 x.ev.proc 0)).sum))), (.v (.int .i64 ((x.create op.a (x.ownE 1 x.ev.proc 0)).ev.time))), (.fsl (((x.create op.a (x.ownE 1 x.ev.proc 0)).ev.key).map intC) false), (.v (.int .i64 ((x.create op.a (x.ownE 1 x.ev.proc 0)).ev.lp))), (.v (.int .i64 ((x.create op.a (x.ownE 1 x.ev.proc 0)).ev.kind))), (.v (.int .i64 ((x.create op.a (x.ownE 1 x.ev.proc 0)).ev.proc))), (.v (.int .i64 ((x.create op.a (x.ownE 1 x.ev.proc 0)).ev.arg))), .sl 3 (createG x op.a gc) 0 (x.create op.a (x.ownE 1 x.ev.proc 0)).out.length false, (.v (.int .i64 ((x.create op.a (x.ownE 1 x.ev.proc 0)).n))), .sl 4 gg 0 (x.create op.a (x.ownE 1 x.ev.proc 0)).gone.length false, (.v (.bool ((x.create op.a (x.ownE 1 x.ev.proc 0)).over)))]] 0, .mp .i64 tableL]) := by
  have h1 := own_ev a0 a1 a2 am x gp gc gg 1 x.ev.proc 0
  have h2 := create_ev a0 a1 a2 am x gp gc gg h op.a 0 x.ev.lp 1 x.ev.proc 0 []
  simp only [List.map_nil] at h2
  rw [evL_code ext_process_execution_hold code_process_execution_hold]
  simp only [c_process_execution_hold, h1, h2, Ex.ownE, ints_lo, procs_lo, evts_lo, keys_lo, Nat.reduceLT, Go.Ev.runFunc, Go.Ev.exec, Go.Ev.evOpers, Go.Ev.evOper, Go.Ev.item_op, Go.Ev.item_I, Go.Ev.evOp, Go.Ev.evs, Go.Ev.Opnd.ev, Go.Ev.Env.get, Go.Ev.Env.set, Go.Ev.look, Go.Ev.argVars, Go.Ev.cellsAt, Go.Ev.loadC, Go.Ev.AV.cells, Go.Ev.plains, Go.Ev.AV.plain, Go.Ev.resVals, Go.Ev.resVal, Go.Ev.resOf, Go.Ev.kill, Go.Ev.leave, Go.Ev.storeLo, Go.Ev.SObj.lo, Go.Ev.lo_v, Go.Ev.lo_fsl, Go.Ev.lo_sl, Go.Ev.los_nil, Go.Ev.los_cons, Go.Ev.loss_nil, Go.Ev.loss_cons, ↓Go.Ev.obind, ↓reduceIte, List.length_cons, List.length_nil, List.getElem?_cons_zero, List.getElem?_cons_succ, List.take_succ_cons, List.take_nil, List.drop_succ_cons, List.drop_zero, List.head?_cons, Nat.reduceAdd, Nat.reduceEqDiff, Nat.reduceLT, reduceCtorEq, decide_true, Bool.and_self, Bool.false_eq_true, and_self, ne_eq, not_false_eq_true, List.cons_ne_nil, Nat.zero_add, eq_self]
theorem send_ev (h : x.Small) : (evL T).call n_process_execution_send [.ptr 5 0 0 0, (.agg [(.v (.int .i64 (op.code))), (.v (.int .i64 (op.a))), (.v (.int .i64 (op.b))), (.v (.int .i64 (op.c)))])] [.row 4 [[(.v (.int .i64 (a0))), (.v (.int .i64 (a1))), .sl 2 0 0 am false, (.v (.int .i64 (a2)))]] 0, .row 4 [[(.v (.int .i64 (0))), (.v (.int .i64 (0))), .fsl [] false, (.v (.int .i64 (0)))]] 0, .row 4 ((x.procs).map Pr.r) gp, .row 6 ((x.out).map Evt.r) gc, .row 1 ((x.gone).map keyC) gg, .row 14 [[(.v (.int .i64 (x.r0))), (.v (.int .i64 (x.r1))), .sl 2 gp 0 x.procs.length false, (.v (.int .i64 (x.sum))), (.v (.int .i64 (x.ev.time))), (.fsl ((x.ev.key).map intC) false), (.v (.int .i64 (x.ev.lp))), (.v (.int .i64 (x.ev.kind))), (.v (.int .i64 (x.ev.proc))), (.v (.int .i64 (x.ev.arg))), .sl 3 gc 0 x.out.length false, (.v (.int .i64 (x.n))), .sl 4 gg 0 x.gone.length false, (.v (.bool (x.over)))]] 0, .mp .i64 tableL] = some ((.v (.int .i64 (0))), [.row 4 [[(.v (.int .i64 (a0))), (.v (.int .i64 (a1))), .sl 2 0 0 am false, (.v (.int .i64 (a2)))]] 0, .row 4 [[(.v (.int .i64 (0))), (.v (.int .i64 (0))), .fsl [] false, (.v (.int .i64 (0)))]] 0, .row 4 (((x.create op.c ⟨0, [], op.a, 3, 0, op.b⟩).procs).map Pr.r) gp, .row 6 (((x.create op.c ⟨0, [], op.a, 3, 0, op.b⟩).out).map Evt.r) (createG x op.c gc), .row 1 (((x.create op.c ⟨0, [], op.a, 3, 0, op.b⟩).gone).map keyC) gg, .row 14 [[(.v (.int .i64 ((x.create op.c ⟨0, [], op.a, 3, 0, op.b⟩).r0))), (.v (.int .i64 ((x.create op.c ⟨0, [], op.a, 3, 0, op.b⟩).r1))), .sl 2 gp 0 (x.create op.c ⟨0, [], op.a, 3, 0, op.b⟩).procs.length false, (.v (.int .i64 ((x.create op.c ⟨0, [], op.a, 3, 0, op.b⟩).sum))), (.v (.int .i64 ((x.create op.c ⟨0, [], op.a, 3, 0, op.b⟩).ev.time))), (.fsl (((x.create op.c ⟨0, [], op.a, 3, 0, op.b⟩).ev.key).map intC) false), (.v (.int .i64 ((x.create op.c ⟨0, [], op.a, 3, 0, op.b⟩).ev.lp))), (.v (.int .i64 ((x.create op.c ⟨0, [], op.a, 3, 0, op.b⟩).ev.kind))), (.v (.int .i64 ((x.create op.c ⟨0, [], op.a, 3, 0, op.b⟩).ev.proc))), (.v (.int .i64 ((x.create op.c ⟨0, [], op.a, 3, 0, op.b⟩).ev.arg))), .sl 3 (createG x op.c gc) 0 (x.create op.c ⟨0, [], op.a, 3, 0, op.b⟩).out.length false, (.v (.int .i64 ((x.create op.c ⟨0, [], op.a, 3, 0, op.b⟩).n))), .sl 4 gg 0 (x.create op.c ⟨0, [], op.a, 3, 0, op.b⟩).gone.length false, (.v (.bool ((x.create op.c ⟨0, [], op.a, 3, 0, op.b⟩).over)))]] 0, .mp .i64 tableL]) := by
  have h2 := create_ev a0 a1 a2 am x gp gc gg h op.c 0 op.a 3 0 op.b []
  simp only [List.map_nil] at h2
  rw [evL_code ext_process_execution_send code_process_execution_send]
  simp only [c_process_execution_send, h2, ints_lo, procs_lo, evts_lo, keys_lo, Nat.reduceLT, Nat.reduceLeDiff, Go.Ev.runFunc, Go.Ev.exec, Go.Ev.evOpers, Go.Ev.evOper, Go.Ev.item_op, Go.Ev.item_I, Go.Ev.evOp, Go.Ev.evs, Go.Ev.Opnd.ev, Go.Ev.Env.get, Go.Ev.Env.set, Go.Ev.look, Go.Ev.argVars, Go.Ev.cellsAt, Go.Ev.loadC, Go.Ev.fillP, Go.Ev.AV.cells, Go.Ev.AV.uc, Go.Ev.plains, Go.Ev.AV.plain, Go.Ev.resVals, Go.Ev.resVal, Go.Ev.resOf, Go.Ev.kill, Go.Ev.leave, Go.Ev.storeLo, Go.Ev.SObj.lo, Go.Ev.lo_v, Go.Ev.lo_fsl, Go.Ev.lo_sl, Go.Ev.los_nil, Go.Ev.los_cons, Go.Ev.loss_nil, Go.Ev.loss_cons, ↓Go.Ev.obind, ↓reduceIte, List.length_cons, List.length_nil, List.take_succ_cons, List.take_zero, List.take_nil, List.drop_succ_cons, List.drop_zero, List.drop_nil, List.cons_append, List.nil_append, List.append_nil, List.head?_cons, Nat.reduceAdd, Nat.reduceEqDiff, Nat.reduceLT, Nat.reduceLeDiff, reduceCtorEq, decide_true, Bool.and_self, Bool.false_eq_true, and_self, ne_eq, not_false_eq_true, List.cons_ne_nil, Nat.zero_add, Nat.le_refl, eq_self]
theorem end_ev : (evL T).call n_process_execution_end [.ptr 5 0 0 0, (.agg [(.v (.int .i64 (op.code))), (.v (.int .i64 (op.a))), (.v (.int .i64 (op.b))), (.v (.int .i64 (op.c)))])] [.row 4 [[(.v (.int .i64 (a0))), (.v (.int .i64 (a1))), .sl 2 0 0 am false, (.v (.int .i64 (a2)))]] 0, .row 4 [[(.v (.int .i64 (0))), (.v (.int .i64 (0))), .fsl [] false, (.v (.int .i64 (0)))]] 0, .row 4 ((x.procs).map Pr.r) gp, .row 6 ((x.out).map Evt.r) gc, .row 1 ((x.gone).map keyC) gg, .row 14 [[(.v (.int .i64 (x.r0))), (.v (.int .i64 (x.r1))), .sl 2 gp 0 x.procs.length false, (.v (.int .i64 (x.sum))), (.v (.int .i64 (x.ev.time))), (.fsl ((x.ev.key).map intC) false), (.v (.int .i64 (x.ev.lp))), (.v (.int .i64 (x.ev.kind))), (.v (.int .i64 (x.ev.proc))), (.v (.int .i64 (x.ev.arg))), .sl 3 gc 0 x.out.length false, (.v (.int .i64 (x.n))), .sl 4 gg 0 x.gone.length false, (.v (.bool (x.over)))]] 0, .mp .i64 tableL] = some ((.v (.int .i64 (2))), [.row 4 [[(.v (.int .i64 (a0))), (.v (.int .i64 (a1))), .sl 2 0 0 am false, (.v (.int .i64 (a2)))]] 0, .row 4 [[(.v (.int .i64 (0))), (.v (.int .i64 (0))), .fsl [] false, (.v (.int .i64 (0)))]] 0, .row 4 ((x.procs).map Pr.r) gp, .row 6 ((x.out).map Evt.r) gc, .row 1 ((x.gone).map keyC) gg, .row 14 [[(.v (.int .i64 (x.r0))), (.v (.int .i64 (x.r1))), .sl 2 gp 0 x.procs.length false, (.v (.int .i64 (x.sum))), (.v (.int .i64 (x.ev.time))), (.fsl ((x.ev.key).map intC) false), (.v (.int .i64 (x.ev.lp))), (.v (.int .i64 (x.ev.kind))), (.v (.int .i64 (x.ev.proc))), (.v (.int .i64 (x.ev.arg))), .sl 3 gc 0 x.out.length false, (.v (.int .i64 (x.n))), .sl 4 gg 0 x.gone.length false, (.v (.bool (x.over)))]] 0, .mp .i64 tableL]) := by
  rw [evL_code ext_process_execution_end code_process_execution_end]
  simp only [c_process_execution_end, ints_lo, procs_lo, evts_lo, keys_lo, Nat.reduceLT, Go.Ev.runFunc, Go.Ev.exec, Go.Ev.evOpers, Go.Ev.evOper, Go.Ev.item_op, Go.Ev.evOp, Go.Ev.Opnd.ev, Go.Ev.Env.get, Go.Ev.Env.set, Go.Ev.look, Go.Ev.argVars, Go.Ev.AV.cells, Go.Ev.plains, Go.Ev.AV.plain, Go.Ev.resVals, Go.Ev.resVal, Go.Ev.resOf, Go.Ev.kill, Go.Ev.leave, Go.Ev.storeLo, Go.Ev.SObj.lo, Go.Ev.lo_v, Go.Ev.lo_fsl, Go.Ev.lo_sl, Go.Ev.los_nil, Go.Ev.los_cons, Go.Ev.loss_nil, Go.Ev.loss_cons, ↓Go.Ev.obind, ↓reduceIte, List.length_cons, List.length_nil, List.take_succ_cons, List.take_nil, Nat.reduceAdd, Nat.reduceLT, reduceCtorEq, decide_true, Bool.and_self, and_self, ne_eq, not_false_eq_true, List.cons_ne_nil, Nat.zero_add, eq_self]
/-- Register k, and the execution with another value in it. -/
def Ex.reg (x : Ex) (k : Int) : Int := if k = 0 then x.r0 else x.r1
def Ex.setReg (x : Ex) (k v : Int) : Ex := if k = 0 then { x with r0 := v } else { x with r1 := v }
theorem add_ev (ha : op.a = 0 ∨ op.a = 1) : (evL T).call n_process_execution_add [.ptr 5 0 0 0, (.agg [(.v (.int .i64 (op.code))), (.v (.int .i64 (op.a))), (.v (.int .i64 (op.b))), (.v (.int .i64 (op.c)))])] [.row 4 [[(.v (.int .i64 (a0))), (.v (.int .i64 (a1))), .sl 2 0 0 am false, (.v (.int .i64 (a2)))]] 0, .row 4 [[(.v (.int .i64 (0))), (.v (.int .i64 (0))), .fsl [] false, (.v (.int .i64 (0)))]] 0, .row 4 ((x.procs).map Pr.r) gp, .row 6 ((x.out).map Evt.r) gc, .row 1 ((x.gone).map keyC) gg, .row 14 [[(.v (.int .i64 (x.r0))), (.v (.int .i64 (x.r1))), .sl 2 gp 0 x.procs.length false, (.v (.int .i64 (x.sum))), (.v (.int .i64 (x.ev.time))), (.fsl ((x.ev.key).map intC) false), (.v (.int .i64 (x.ev.lp))), (.v (.int .i64 (x.ev.kind))), (.v (.int .i64 (x.ev.proc))), (.v (.int .i64 (x.ev.arg))), .sl 3 gc 0 x.out.length false, (.v (.int .i64 (x.n))), .sl 4 gg 0 x.gone.length false, (.v (.bool (x.over)))]] 0, .mp .i64 tableL] = some ((.v (.int .i64 (0))), [.row 4 [[(.v (.int .i64 (a0))), (.v (.int .i64 (a1))), .sl 2 0 0 am false, (.v (.int .i64 (a2)))]] 0, .row 4 [[(.v (.int .i64 (0))), (.v (.int .i64 (0))), .fsl [] false, (.v (.int .i64 (0)))]] 0, .row 4 (((x.setReg op.a (w64 (x.reg op.a + op.b))).procs).map Pr.r) gp, .row 6 (((x.setReg op.a (w64 (x.reg op.a + op.b))).out).map Evt.r) gc, .row 1 (((x.setReg op.a (w64 (x.reg op.a + op.b))).gone).map keyC) gg, .row 14 [[(.v (.int .i64 ((x.setReg op.a (w64 (x.reg op.a + op.b))).r0))), (.v (.int .i64 ((x.setReg op.a (w64 (x.reg op.a + op.b))).r1))), .sl 2 gp 0 (x.setReg op.a (w64 (x.reg op.a + op.b))).procs.length false, (.v (.int .i64 ((x.setReg op.a (w64 (x.reg op.a + op.b))).sum))), (.v (.int .i64 ((x.setReg op.a (w64 (x.reg op.a + op.b))).ev.time))), (.fsl (((x.setReg op.a (w64 (x.reg op.a + op.b))).ev.key).map intC) false), (.v (.int .i64 ((x.setReg op.a (w64 (x.reg op.a + op.b))).ev.lp))), (.v (.int .i64 ((x.setReg op.a (w64 (x.reg op.a + op.b))).ev.kind))), (.v (.int .i64 ((x.setReg op.a (w64 (x.reg op.a + op.b))).ev.proc))), (.v (.int .i64 ((x.setReg op.a (w64 (x.reg op.a + op.b))).ev.arg))), .sl 3 gc 0 (x.setReg op.a (w64 (x.reg op.a + op.b))).out.length false, (.v (.int .i64 ((x.setReg op.a (w64 (x.reg op.a + op.b))).n))), .sl 4 gg 0 (x.setReg op.a (w64 (x.reg op.a + op.b))).gone.length false, (.v (.bool ((x.setReg op.a (w64 (x.reg op.a + op.b))).over)))]] 0, .mp .i64 tableL]) := by
  rw [evL_code ext_process_execution_add code_process_execution_add]
  rcases ha with ha | ha
  · simp only [c_process_execution_add, ha, Ex.setReg, Ex.reg, ints_lo, procs_lo, evts_lo, keys_lo, Nat.reduceLT, Nat.reduceLeDiff, Go.Ev.runFunc, Go.Ev.exec, Go.Ev.evOpers, Go.Ev.evOper, Go.Ev.item_op, Go.Ev.evOp, Go.Ev.Opnd.ev, Go.Ev.Env.get, Go.Ev.Env.set, Go.Ev.look, Go.Ev.argVars, Go.Ev.cellsAt, Go.Ev.loadC, Go.Ev.AV.cells, Go.Ev.AV.uc, Go.Ev.plains, Go.Ev.AV.plain, Go.Ev.bin_add, Go.Ev.resVals, Go.Ev.resVal, Go.Ev.resOf, Go.Ev.kill, Go.Ev.leave, Go.Ev.storeLo, Go.Ev.SObj.lo, Go.Ev.lo_v, Go.Ev.lo_fsl, Go.Ev.lo_sl, Go.Ev.los_nil, Go.Ev.los_cons, Go.Ev.loss_nil, Go.Ev.loss_cons, ↓Go.Ev.obind, ↓reduceIte, List.length_cons, List.length_nil, List.getElem?_cons_zero, List.getElem?_cons_succ, List.take_succ_cons, List.take_zero, List.take_nil, List.drop_succ_cons, List.drop_zero, List.cons_append, List.nil_append, List.set_cons_zero, List.set_cons_succ, List.head?_cons, Nat.reduceAdd, Nat.reduceEqDiff, Nat.reduceMul, Nat.reduceLT, Nat.reduceLeDiff, Int.reduceLE, Int.reduceToNat, reduceCtorEq, decide_true, Bool.and_self, Bool.false_eq_true, and_self, ne_eq, not_false_eq_true, List.cons_ne_nil, Nat.zero_add, Nat.add_zero, eq_self]
  · simp only [c_process_execution_add, ha, Ex.setReg, Ex.reg, ints_lo, procs_lo, evts_lo, keys_lo, Nat.reduceLT, Nat.reduceLeDiff, Go.Ev.runFunc, Go.Ev.exec, Go.Ev.evOpers, Go.Ev.evOper, Go.Ev.item_op, Go.Ev.evOp, Go.Ev.Opnd.ev, Go.Ev.Env.get, Go.Ev.Env.set, Go.Ev.look, Go.Ev.argVars, Go.Ev.cellsAt, Go.Ev.loadC, Go.Ev.AV.cells, Go.Ev.AV.uc, Go.Ev.plains, Go.Ev.AV.plain, Go.Ev.bin_add, Go.Ev.resVals, Go.Ev.resVal, Go.Ev.resOf, Go.Ev.kill, Go.Ev.leave, Go.Ev.storeLo, Go.Ev.SObj.lo, Go.Ev.lo_v, Go.Ev.lo_fsl, Go.Ev.lo_sl, Go.Ev.los_nil, Go.Ev.los_cons, Go.Ev.loss_nil, Go.Ev.loss_cons, ↓Go.Ev.obind, ↓reduceIte, List.length_cons, List.length_nil, List.getElem?_cons_zero, List.getElem?_cons_succ, List.take_succ_cons, List.take_zero, List.take_nil, List.drop_succ_cons, List.drop_zero, List.cons_append, List.nil_append, List.set_cons_zero, List.set_cons_succ, List.head?_cons, Nat.reduceAdd, Nat.reduceEqDiff, Nat.reduceMul, Nat.reduceLT, Nat.reduceLeDiff, Int.reduceLE, Int.reduceToNat, Int.reduceEq, reduceCtorEq, decide_true, Bool.and_self, Bool.false_eq_true, and_self, ne_eq, not_false_eq_true, List.cons_ne_nil, Nat.zero_add, Nat.add_zero, Nat.lt_add_one, eq_self]
section
variable (i : Nat) (q : Pr) (hi : x.ev.proc = i) (hq : x.procs[i]? = some q)
include hi hq
theorem less_ev (ha : op.a = 0 ∨ op.a = 1) : (evL T).call n_process_execution_less [.ptr 5 0 0 0, (.agg [(.v (.int .i64 (op.code))), (.v (.int .i64 (op.a))), (.v (.int .i64 (op.b))), (.v (.int .i64 (op.c)))])] [.row 4 [[(.v (.int .i64 (a0))), (.v (.int .i64 (a1))), .sl 2 0 0 am false, (.v (.int .i64 (a2)))]] 0, .row 4 [[(.v (.int .i64 (0))), (.v (.int .i64 (0))), .fsl [] false, (.v (.int .i64 (0)))]] 0, .row 4 ((x.procs).map Pr.r) gp, .row 6 ((x.out).map Evt.r) gc, .row 1 ((x.gone).map keyC) gg, .row 14 [[(.v (.int .i64 (x.r0))), (.v (.int .i64 (x.r1))), .sl 2 gp 0 x.procs.length false, (.v (.int .i64 (x.sum))), (.v (.int .i64 (x.ev.time))), (.fsl ((x.ev.key).map intC) false), (.v (.int .i64 (x.ev.lp))), (.v (.int .i64 (x.ev.kind))), (.v (.int .i64 (x.ev.proc))), (.v (.int .i64 (x.ev.arg))), .sl 3 gc 0 x.out.length false, (.v (.int .i64 (x.n))), .sl 4 gg 0 x.gone.length false, (.v (.bool (x.over)))]] 0, .mp .i64 tableL] = some ((.v (.int .i64 (0))), [.row 4 [[(.v (.int .i64 (a0))), (.v (.int .i64 (a1))), .sl 2 0 0 am false, (.v (.int .i64 (a2)))]] 0, .row 4 [[(.v (.int .i64 (0))), (.v (.int .i64 (0))), .fsl [] false, (.v (.int .i64 (0)))]] 0, .row 4 (((if x.reg op.a < op.b then x.setP i { q with pc := op.c } else x).procs).map Pr.r) gp, .row 6 (((if x.reg op.a < op.b then x.setP i { q with pc := op.c } else x).out).map Evt.r) gc, .row 1 (((if x.reg op.a < op.b then x.setP i { q with pc := op.c } else x).gone).map keyC) gg, .row 14 [[(.v (.int .i64 ((if x.reg op.a < op.b then x.setP i { q with pc := op.c } else x).r0))), (.v (.int .i64 ((if x.reg op.a < op.b then x.setP i { q with pc := op.c } else x).r1))), .sl 2 gp 0 (if x.reg op.a < op.b then x.setP i { q with pc := op.c } else x).procs.length false, (.v (.int .i64 ((if x.reg op.a < op.b then x.setP i { q with pc := op.c } else x).sum))), (.v (.int .i64 ((if x.reg op.a < op.b then x.setP i { q with pc := op.c } else x).ev.time))), (.fsl (((if x.reg op.a < op.b then x.setP i { q with pc := op.c } else x).ev.key).map intC) false), (.v (.int .i64 ((if x.reg op.a < op.b then x.setP i { q with pc := op.c } else x).ev.lp))), (.v (.int .i64 ((if x.reg op.a < op.b then x.setP i { q with pc := op.c } else x).ev.kind))), (.v (.int .i64 ((if x.reg op.a < op.b then x.setP i { q with pc := op.c } else x).ev.proc))), (.v (.int .i64 ((if x.reg op.a < op.b then x.setP i { q with pc := op.c } else x).ev.arg))), .sl 3 gc 0 (if x.reg op.a < op.b then x.setP i { q with pc := op.c } else x).out.length false, (.v (.int .i64 ((if x.reg op.a < op.b then x.setP i { q with pc := op.c } else x).n))), .sl 4 gg 0 (if x.reg op.a < op.b then x.setP i { q with pc := op.c } else x).gone.length false, (.v (.bool ((if x.reg op.a < op.b then x.setP i { q with pc := op.c } else x).over)))]] 0, .mp .i64 tableL]) := by
  have hp := (List.getElem?_eq_some_iff.1 hq).1
  have h1 := self7_ev a0 a1 a2 am x gp gc gg i hi hp
  have hset : (x.procs.map Pr.r).set i [(.v (.int .i64 (q.prog))), (.v (.int .i64 (op.c))), (.v (.bool (q.alive))), (.fsl ((q.timer).map intC) false)] = (x.procs.set i { q with pc := op.c }).map Pr.r := by rw [List.map_set]; rfl
  have hl : (x.procs.set i { q with pc := op.c }).length = x.procs.length := by simp
  rw [evL_code ext_process_execution_less code_process_execution_less]
  unfold Ex.reg
  rcases ha with ha | ha
  · by_cases hlt : x.r0 < op.b
    · simp only [c_process_execution_less, ha, hlt, Ex.setP, h1, hl, List.getElem?_map, Option.map_some, hq, Pr.r, ints_lo, procs_lo, evts_lo, keys_lo, Nat.reduceLT, Nat.reduceLeDiff, Go.Ev.runFunc, Go.Ev.exec, Go.Ev.evOpers, Go.Ev.evOper, Go.Ev.item_op, Go.Ev.item_I, Go.Ev.evOp, Go.Ev.evs, Go.Ev.Opnd.ev, Go.Ev.Env.get, Go.Ev.Env.set, Go.Ev.look, Go.Ev.argVars, Go.Ev.cellsAt, Go.Ev.loadC, Go.Ev.AV.cells, Go.Ev.AV.uc, Go.Ev.plains, Go.Ev.AV.plain, Go.Ev.bin_lss, Go.Ev.resVals, Go.Ev.resVal, Go.Ev.resOf, Go.Ev.kill, Go.Ev.leave, Go.Ev.storeLo, Go.Ev.SObj.lo, Go.Ev.lo_v, Go.Ev.lo_fsl, Go.Ev.lo_sl, Go.Ev.los_nil, Go.Ev.los_cons, Go.Ev.loss_nil, Go.Ev.loss_cons, ↓Go.Ev.obind, ↓reduceIte, List.length_cons, List.length_nil, List.getElem?_cons_zero, List.getElem?_cons_succ, List.take_succ_cons, List.take_zero, List.take_nil, List.drop_succ_cons, List.drop_zero, List.cons_append, List.nil_append, List.set_cons_zero, List.set_cons_succ, List.head?_cons, Nat.reduceAdd, Nat.reduceEqDiff, Nat.reduceMul, Nat.reduceLT, Nat.reduceLeDiff, Int.reduceLE, Int.reduceToNat, reduceCtorEq, decide_true, Bool.and_self, Bool.false_eq_true, and_self, ne_eq, not_false_eq_true, List.cons_ne_nil, Nat.zero_add, Nat.add_zero, eq_self, hset]
    · simp only [c_process_execution_less, ha, hlt, ints_lo, procs_lo, evts_lo, keys_lo, Nat.reduceLT, Go.Ev.runFunc, Go.Ev.exec, Go.Ev.evOpers, Go.Ev.evOper, Go.Ev.item_op, Go.Ev.evOp, Go.Ev.Opnd.ev, Go.Ev.Env.get, Go.Ev.Env.set, Go.Ev.look, Go.Ev.argVars, Go.Ev.cellsAt, Go.Ev.loadC, Go.Ev.AV.cells, Go.Ev.plains, Go.Ev.AV.plain, Go.Ev.bin_lss, Go.Ev.resVals, Go.Ev.resVal, Go.Ev.resOf, Go.Ev.kill, Go.Ev.leave, Go.Ev.storeLo, Go.Ev.SObj.lo, Go.Ev.lo_v, Go.Ev.lo_fsl, Go.Ev.lo_sl, Go.Ev.los_nil, Go.Ev.los_cons, Go.Ev.loss_nil, Go.Ev.loss_cons, ↓Go.Ev.obind, ↓reduceIte, List.length_cons, List.length_nil, List.getElem?_cons_zero, List.getElem?_cons_succ, List.take_succ_cons, List.take_nil, List.drop_succ_cons, List.drop_zero, List.head?_cons, Nat.reduceAdd, Nat.reduceEqDiff, Nat.reduceMul, Nat.reduceLT, Int.reduceLE, Int.reduceToNat, reduceCtorEq, decide_true, decide_false, Bool.and_self, Bool.false_eq_true, and_self, ne_eq, not_false_eq_true, List.cons_ne_nil, Nat.zero_add, Nat.add_zero, eq_self]
  · have h01 : ¬ (1 : Int) = 0 := by decide
    by_cases hlt : x.r1 < op.b
    · simp only [c_process_execution_less, ha, h01, hlt, Ex.setP, h1, hl, List.getElem?_map, Option.map_some, hq, Pr.r, ints_lo, procs_lo, evts_lo, keys_lo, Nat.reduceLT, Nat.reduceLeDiff, Go.Ev.runFunc, Go.Ev.exec, Go.Ev.evOpers, Go.Ev.evOper, Go.Ev.item_op, Go.Ev.item_I, Go.Ev.evOp, Go.Ev.evs, Go.Ev.Opnd.ev, Go.Ev.Env.get, Go.Ev.Env.set, Go.Ev.look, Go.Ev.argVars, Go.Ev.cellsAt, Go.Ev.loadC, Go.Ev.AV.cells, Go.Ev.AV.uc, Go.Ev.plains, Go.Ev.AV.plain, Go.Ev.bin_lss, Go.Ev.resVals, Go.Ev.resVal, Go.Ev.resOf, Go.Ev.kill, Go.Ev.leave, Go.Ev.storeLo, Go.Ev.SObj.lo, Go.Ev.lo_v, Go.Ev.lo_fsl, Go.Ev.lo_sl, Go.Ev.los_nil, Go.Ev.los_cons, Go.Ev.loss_nil, Go.Ev.loss_cons, ↓Go.Ev.obind, ↓reduceIte, List.length_cons, List.length_nil, List.getElem?_cons_zero, List.getElem?_cons_succ, List.take_succ_cons, List.take_zero, List.take_nil, List.drop_succ_cons, List.drop_zero, List.cons_append, List.nil_append, List.set_cons_zero, List.set_cons_succ, List.head?_cons, Nat.reduceAdd, Nat.reduceEqDiff, Nat.reduceMul, Nat.reduceLT, Nat.reduceLeDiff, Int.reduceLE, Int.reduceToNat, reduceCtorEq, decide_true, Bool.and_self, Bool.false_eq_true, and_self, ne_eq, not_false_eq_true, List.cons_ne_nil, Nat.zero_add, Nat.add_zero, Nat.lt_add_one, eq_self, hset]
    · simp only [c_process_execution_less, ha, h01, hlt, ints_lo, procs_lo, evts_lo, keys_lo, Nat.reduceLT, Go.Ev.runFunc, Go.Ev.exec, Go.Ev.evOpers, Go.Ev.evOper, Go.Ev.item_op, Go.Ev.evOp, Go.Ev.Opnd.ev, Go.Ev.Env.get, Go.Ev.Env.set, Go.Ev.look, Go.Ev.argVars, Go.Ev.cellsAt, Go.Ev.loadC, Go.Ev.AV.cells, Go.Ev.plains, Go.Ev.AV.plain, Go.Ev.bin_lss, Go.Ev.resVals, Go.Ev.resVal, Go.Ev.resOf, Go.Ev.kill, Go.Ev.leave, Go.Ev.storeLo, Go.Ev.SObj.lo, Go.Ev.lo_v, Go.Ev.lo_fsl, Go.Ev.lo_sl, Go.Ev.los_nil, Go.Ev.los_cons, Go.Ev.loss_nil, Go.Ev.loss_cons, ↓Go.Ev.obind, ↓reduceIte, List.length_cons, List.length_nil, List.getElem?_cons_zero, List.getElem?_cons_succ, List.take_succ_cons, List.take_nil, List.drop_succ_cons, List.drop_zero, List.head?_cons, Nat.reduceAdd, Nat.reduceEqDiff, Nat.reduceMul, Nat.reduceLT, Int.reduceLE, Int.reduceToNat, reduceCtorEq, decide_true, decide_false, Bool.and_self, Bool.false_eq_true, and_self, ne_eq, not_false_eq_true, List.cons_ne_nil, Nat.zero_add, Nat.add_zero, Nat.lt_add_one, eq_self]
theorem stop_ev (h : x.Small) : (evL T).call n_process_execution_stop [.ptr 5 0 0 0, (.agg [(.v (.int .i64 (op.code))), (.v (.int .i64 (op.a))), (.v (.int .i64 (op.b))), (.v (.int .i64 (op.c)))])] [.row 4 [[(.v (.int .i64 (a0))), (.v (.int .i64 (a1))), .sl 2 0 0 am false, (.v (.int .i64 (a2)))]] 0, .row 4 [[(.v (.int .i64 (0))), (.v (.int .i64 (0))), .fsl [] false, (.v (.int .i64 (0)))]] 0, .row 4 ((x.procs).map Pr.r) gp, .row 6 ((x.out).map Evt.r) gc, .row 1 ((x.gone).map keyC) gg, .row 14 [[(.v (.int .i64 (x.r0))), (.v (.int .i64 (x.r1))), .sl 2 gp 0 x.procs.length false, (.v (.int .i64 (x.sum))), (.v (.int .i64 (x.ev.time))), (.fsl ((x.ev.key).map intC) false), (.v (.int .i64 (x.ev.lp))), (.v (.int .i64 (x.ev.kind))), (.v (.int .i64 (x.ev.proc))), (.v (.int .i64 (x.ev.arg))), .sl 3 gc 0 x.out.length false, (.v (.int .i64 (x.n))), .sl 4 gg 0 x.gone.length false, (.v (.bool (x.over)))]] 0, .mp .i64 tableL] = some ((.v (.int .i64 (0))), [.row 4 [[(.v (.int .i64 (a0))), (.v (.int .i64 (a1))), .sl 2 0 0 am false, (.v (.int .i64 (a2)))]] 0, .row 4 [[(.v (.int .i64 (0))), (.v (.int .i64 (0))), .fsl [] false, (.v (.int .i64 (0)))]] 0, .row 4 (((x.stopE i q).procs).map Pr.r) gp, .row 6 (((x.stopE i q).out).map Evt.r) gc, .row 1 (((x.stopE i q).gone).map keyC) (if 0 < q.timer.length then gg + 1 else gg), .row 14 [[(.v (.int .i64 ((x.stopE i q).r0))), (.v (.int .i64 ((x.stopE i q).r1))), .sl 2 gp 0 (x.stopE i q).procs.length false, (.v (.int .i64 ((x.stopE i q).sum))), (.v (.int .i64 ((x.stopE i q).ev.time))), (.fsl (((x.stopE i q).ev.key).map intC) false), (.v (.int .i64 ((x.stopE i q).ev.lp))), (.v (.int .i64 ((x.stopE i q).ev.kind))), (.v (.int .i64 ((x.stopE i q).ev.proc))), (.v (.int .i64 ((x.stopE i q).ev.arg))), .sl 3 gc 0 (x.stopE i q).out.length false, (.v (.int .i64 ((x.stopE i q).n))), .sl 4 (if 0 < q.timer.length then gg + 1 else gg) 0 (x.stopE i q).gone.length false, (.v (.bool ((x.stopE i q).over)))]] 0, .mp .i64 tableL]) := by
  have hp := (List.getElem?_eq_some_iff.1 hq).1
  have h1 := self7_ev a0 a1 a2 am x gp gc gg i hi hp
  have hset : (x.procs.map Pr.r).set i [(.v (.int .i64 (q.prog))), (.v (.int .i64 (q.pc))), (.v (.bool (q.alive))), .fsl [] false] = (x.procs.set i { q with timer := [] }).map Pr.r := by rw [List.map_set]; rfl
  have hl : (x.procs.set i { q with timer := [] }).length = x.procs.length := by simp
  have hs : (x.gone.length + 1) * 24 ≤ 140737488355328 := by have := h.gone; omega
  have htl : List.take x.gone.length (x.gone.map keyC) = x.gone.map keyC := List.take_of_length_le (by simp)
  have hr : ∀ e : List Int, (x.gone ++ [e]).map keyC = x.gone.map keyC ++ [keyC e] := fun e => by rw [List.map_append]; rfl
  rw [evL_code ext_process_execution_stop code_process_execution_stop]
  unfold Ex.stopE
  by_cases ht : 0 < q.timer.length
  · have ht' : (q.timer.length : Int) > 0 := by omega
    simp only [c_process_execution_stop, ht, ht', h1, hl, hs, htl, hr, loss_app, keyC, List.getElem?_map, Option.map_some, hq, Pr.r, ints_lo, procs_lo, evts_lo, keys_lo, Nat.reduceLT, Nat.reduceLeDiff, Go.Ev.runFunc, Go.Ev.exec, Go.Ev.evOpers, Go.Ev.evOper, Go.Ev.item_op, Go.Ev.item_I, Go.Ev.evOp, Go.Ev.appE, Go.Ev.evs, Go.Ev.Opnd.ev, Go.Ev.Env.get, Go.Ev.Env.set, Go.Ev.look, Go.Ev.argVars, Go.Ev.cellsAt, Go.Ev.content, Go.Ev.loadC, Go.Ev.fillR, Go.Ev.AV.cells, Go.Ev.AV.uc, Go.Ev.plains, Go.Ev.AV.plain, Go.Ev.bin_gtr, Go.Ev.resVals, Go.Ev.resVal, Go.Ev.resOf, Go.Ev.kill, Go.Ev.leave, Go.Ev.storeLo, Go.Ev.SObj.lo, Go.Ev.lo_v, Go.Ev.lo_fsl, Go.Ev.lo_sl, Go.Ev.los_nil, Go.Ev.los_cons, Go.Ev.loss_nil, Go.Ev.loss_cons, Go.Ev.okRows_nil, Go.Ev.okRows_cons, List.replicate_one, List.length_map, ↓Go.Ev.obind, ↓reduceIte, List.length_cons, List.length_nil, List.length_append, List.getElem?_cons_zero, List.getElem?_cons_succ, List.take_succ_cons, List.take_zero, List.take_nil, List.drop_succ_cons, List.drop_zero, List.drop_nil, List.cons_append, List.nil_append, List.append_nil, List.set_cons_zero, List.set_cons_succ, List.head?_cons, Nat.reduceAdd, Nat.reduceEqDiff, Nat.reduceMul, Nat.reduceLT, Nat.reduceLeDiff, Nat.reducePow, reduceCtorEq, decide_true, Bool.and_self, Bool.false_eq_true, and_self, ne_eq, not_false_eq_true, List.cons_ne_nil, Nat.zero_add, Nat.lt_add_one, Nat.le_refl, eq_self, hset]
  · have ht' : ¬ (q.timer.length : Int) > 0 := by omega
    simp only [c_process_execution_stop, ht, ht', h1, List.getElem?_map, Option.map_some, hq, Pr.r, ints_lo, procs_lo, evts_lo, keys_lo, Nat.reduceLT, Go.Ev.runFunc, Go.Ev.exec, Go.Ev.evOpers, Go.Ev.evOper, Go.Ev.item_op, Go.Ev.item_I, Go.Ev.evOp, Go.Ev.evs, Go.Ev.Opnd.ev, Go.Ev.Env.get, Go.Ev.Env.set, Go.Ev.look, Go.Ev.argVars, Go.Ev.cellsAt, Go.Ev.loadC, Go.Ev.AV.cells, Go.Ev.plains, Go.Ev.AV.plain, Go.Ev.bin_gtr, Go.Ev.resVals, Go.Ev.resVal, Go.Ev.resOf, Go.Ev.kill, Go.Ev.leave, Go.Ev.storeLo, Go.Ev.SObj.lo, Go.Ev.lo_v, Go.Ev.lo_fsl, Go.Ev.lo_sl, Go.Ev.los_nil, Go.Ev.los_cons, Go.Ev.loss_nil, Go.Ev.loss_cons, List.length_map, ↓Go.Ev.obind, ↓reduceIte, List.length_cons, List.length_nil, List.getElem?_cons_zero, List.getElem?_cons_succ, List.take_succ_cons, List.take_nil, List.drop_succ_cons, List.drop_zero, List.head?_cons, Nat.reduceAdd, Nat.reduceLT, reduceCtorEq, decide_true, decide_false, Bool.and_self, Bool.false_eq_true, and_self, ne_eq, not_false_eq_true, List.cons_ne_nil, Nat.zero_add, eq_self]
def Ex.spawnE (x : Ex) (op : OpI) : Ex := if x.procs.length < 8 then ({ x with procs := x.procs ++ [⟨op.a, 0, true, []⟩] } : Ex).create op.b (x.ownE 1 x.procs.length 0) else x
omit hi hq in
theorem spawn_ev (h : x.Small) : ∃ gp' gc', (evL T).call n_process_execution_spawn [.ptr 5 0 0 0, (.agg [(.v (.int .i64 (op.code))), (.v (.int .i64 (op.a))), (.v (.int .i64 (op.b))), (.v (.int .i64 (op.c)))])] [.row 4 [[(.v (.int .i64 (a0))), (.v (.int .i64 (a1))), .sl 2 0 0 am false, (.v (.int .i64 (a2)))]] 0, .row 4 [[(.v (.int .i64 (0))), (.v (.int .i64 (0))), .fsl [] false, (.v (.int .i64 (0)))]] 0, .row 4 ((x.procs).map Pr.r) gp, .row 6 ((x.out).map Evt.r) gc, .row 1 ((x.gone).map keyC) gg, .row 14 [[(.v (.int .i64 (x.r0))), (.v (.int .i64 (x.r1))), .sl 2 gp 0 x.procs.length false, (.v (.int .i64 (x.sum))), (.v (.int .i64 (x.ev.time))), (.fsl ((x.ev.key).map intC) false), (.v (.int .i64 (x.ev.lp))), (.v (.int .i64 (x.ev.kind))), (.v (.int .i64 (x.ev.proc))), (.v (.int .i64 (x.ev.arg))), .sl 3 gc 0 x.out.length false, (.v (.int .i64 (x.n))), .sl 4 gg 0 x.gone.length false, (.v (.bool (x.over)))]] 0, .mp .i64 tableL] = some ((.v (.int .i64 (0))), [.row 4 [[(.v (.int .i64 (a0))), (.v (.int .i64 (a1))), .sl 2 0 0 am false, (.v (.int .i64 (a2)))]] 0, .row 4 [[(.v (.int .i64 (0))), (.v (.int .i64 (0))), .fsl [] false, (.v (.int .i64 (0)))]] 0, .row 4 (((x.spawnE op).procs).map Pr.r) gp', .row 6 (((x.spawnE op).out).map Evt.r) gc', .row 1 (((x.spawnE op).gone).map keyC) gg, .row 14 [[(.v (.int .i64 ((x.spawnE op).r0))), (.v (.int .i64 ((x.spawnE op).r1))), .sl 2 gp' 0 (x.spawnE op).procs.length false, (.v (.int .i64 ((x.spawnE op).sum))), (.v (.int .i64 ((x.spawnE op).ev.time))), (.fsl (((x.spawnE op).ev.key).map intC) false), (.v (.int .i64 ((x.spawnE op).ev.lp))), (.v (.int .i64 ((x.spawnE op).ev.kind))), (.v (.int .i64 ((x.spawnE op).ev.proc))), (.v (.int .i64 ((x.spawnE op).ev.arg))), .sl 3 gc' 0 (x.spawnE op).out.length false, (.v (.int .i64 ((x.spawnE op).n))), .sl 4 gg 0 (x.spawnE op).gone.length false, (.v (.bool ((x.spawnE op).over)))]] 0, .mp .i64 tableL]) := by
  rw [evL_code ext_process_execution_spawn code_process_execution_spawn]
  unfold Ex.spawnE
  by_cases h8 : x.procs.length < 8
  · have h8' : (x.procs.length : Int) < 8 := by omega
    have hs : (x.procs.length + 1) * 48 ≤ 140737488355328 := by omega
    have htl : List.take x.procs.length (x.procs.map Pr.r) = x.procs.map Pr.r := List.take_of_length_le (by simp)
    have hr : ∀ e : Pr, (x.procs ++ [e]).map Pr.r = x.procs.map Pr.r ++ [e.r] := fun e => by rw [List.map_append]; rfl
    have hl : ∀ e : Pr, (x.procs ++ [e]).length = x.procs.length + 1 := fun e => by simp
    have hsm : ({ x with procs := x.procs ++ [⟨op.a, 0, true, []⟩] } : Ex).Small := ⟨by simp; omega, h.out, h.gone, h.key⟩
    have h1 := own_ev a0 a1 a2 am { x with procs := x.procs ++ [⟨op.a, 0, true, []⟩] } (gp + 1) gc gg 1 x.procs.length 0
    have h2 := create_ev a0 a1 a2 am { x with procs := x.procs ++ [⟨op.a, 0, true, []⟩] } (gp + 1) gc gg hsm op.b 0 x.ev.lp 1 x.procs.length 0 []
    refine ⟨gp + 1, createG { x with procs := x.procs ++ [⟨op.a, 0, true, []⟩] } op.b gc, ?_⟩
    simp only [hr, hl, Pr.r, List.map_nil] at h1 h2
    simp only [c_process_execution_spawn, h8, h8', h1, h2, hs, htl, Ex.ownE, ints_lo, procs_lo, evts_lo, keys_lo, Nat.reduceLT, Nat.reduceLeDiff, Go.Ev.runFunc, Go.Ev.exec, Go.Ev.evOpers, Go.Ev.evOper, Go.Ev.item_op, Go.Ev.item_I, Go.Ev.evOp, Go.Ev.appE, Go.Ev.evs, Go.Ev.Opnd.ev, Go.Ev.Env.get, Go.Ev.Env.set, Go.Ev.look, Go.Ev.argVars, Go.Ev.cellsAt, Go.Ev.content, Go.Ev.loadC, Go.Ev.fillP, Go.Ev.fillR, Go.Ev.AV.cells, Go.Ev.AV.uc, Go.Ev.plains, Go.Ev.AV.plain, Go.Ev.bin_lss, Go.Ev.resVals, Go.Ev.resVal, Go.Ev.resOf, Go.Ev.kill, Go.Ev.leave, Go.Ev.storeLo, Go.Ev.SObj.lo, Go.Ev.lo_v, Go.Ev.lo_fsl, Go.Ev.lo_sl, Go.Ev.los_nil, Go.Ev.los_cons, Go.Ev.loss_nil, Go.Ev.loss_cons, Go.Ev.okRows_nil, Go.Ev.okRows_cons, List.replicate_one, List.length_map, ↓Go.Ev.obind, ↓reduceIte, List.length_cons, List.length_nil, List.getElem?_cons_zero, List.getElem?_cons_succ, List.take_succ_cons, List.take_zero, List.take_nil, List.drop_succ_cons, List.drop_zero, List.cons_append, List.nil_append, List.set_cons_zero, List.set_cons_succ, List.head?_cons, Nat.reduceAdd, Nat.reduceEqDiff, Nat.reduceMul, Nat.reduceLT, Nat.reduceLeDiff, Nat.reducePow, reduceCtorEq, decide_true, Bool.and_self, Bool.false_eq_true, and_self, ne_eq, not_false_eq_true, List.cons_ne_nil, Nat.zero_add, Nat.add_zero, Nat.lt_add_one, Nat.le_refl, eq_self]
  · have h8' : ¬ (x.procs.length : Int) < 8 := by omega
    refine ⟨gp, gc, ?_⟩
    simp only [c_process_execution_spawn, h8, h8', ints_lo, procs_lo, evts_lo, keys_lo, Nat.reduceLT, Go.Ev.runFunc, Go.Ev.exec, Go.Ev.evOpers, Go.Ev.evOper, Go.Ev.item_op, Go.Ev.evOp, Go.Ev.Opnd.ev, Go.Ev.Env.get, Go.Ev.Env.set, Go.Ev.look, Go.Ev.argVars, Go.Ev.cellsAt, Go.Ev.loadC, Go.Ev.AV.cells, Go.Ev.plains, Go.Ev.AV.plain, Go.Ev.bin_lss, Go.Ev.resVals, Go.Ev.resVal, Go.Ev.resOf, Go.Ev.kill, Go.Ev.leave, Go.Ev.storeLo, Go.Ev.SObj.lo, Go.Ev.lo_v, Go.Ev.lo_fsl, Go.Ev.lo_sl, Go.Ev.los_nil, Go.Ev.los_cons, Go.Ev.loss_nil, Go.Ev.loss_cons, ↓Go.Ev.obind, ↓reduceIte, List.length_cons, List.length_nil, List.getElem?_cons_zero, List.getElem?_cons_succ, List.take_succ_cons, List.take_nil, List.drop_succ_cons, List.drop_zero, List.head?_cons, Nat.reduceAdd, Nat.reduceLT, reduceCtorEq, decide_true, decide_false, Bool.and_self, Bool.false_eq_true, and_self, ne_eq, not_false_eq_true, List.cons_ne_nil, Nat.zero_add, Nat.add_zero, eq_self]
def Ex.timerE (x : Ex) (i : Nat) (q : Pr) (op : OpI) : Ex := ((x.stopE i q).create op.a (x.ownE 2 x.ev.proc op.b)).setP i { q with timer := (x.stopE i q).kid }
theorem timer_ev (h : x.Small) (hg : x.gone.length < 1000) : ∃ gc' gg', (evL T).call n_process_execution_timer [.ptr 5 0 0 0, (.agg [(.v (.int .i64 (op.code))), (.v (.int .i64 (op.a))), (.v (.int .i64 (op.b))), (.v (.int .i64 (op.c)))])] [.row 4 [[(.v (.int .i64 (a0))), (.v (.int .i64 (a1))), .sl 2 0 0 am false, (.v (.int .i64 (a2)))]] 0, .row 4 [[(.v (.int .i64 (0))), (.v (.int .i64 (0))), .fsl [] false, (.v (.int .i64 (0)))]] 0, .row 4 ((x.procs).map Pr.r) gp, .row 6 ((x.out).map Evt.r) gc, .row 1 ((x.gone).map keyC) gg, .row 14 [[(.v (.int .i64 (x.r0))), (.v (.int .i64 (x.r1))), .sl 2 gp 0 x.procs.length false, (.v (.int .i64 (x.sum))), (.v (.int .i64 (x.ev.time))), (.fsl ((x.ev.key).map intC) false), (.v (.int .i64 (x.ev.lp))), (.v (.int .i64 (x.ev.kind))), (.v (.int .i64 (x.ev.proc))), (.v (.int .i64 (x.ev.arg))), .sl 3 gc 0 x.out.length false, (.v (.int .i64 (x.n))), .sl 4 gg 0 x.gone.length false, (.v (.bool (x.over)))]] 0, .mp .i64 tableL] = some ((.v (.int .i64 (0))), [.row 4 [[(.v (.int .i64 (a0))), (.v (.int .i64 (a1))), .sl 2 0 0 am false, (.v (.int .i64 (a2)))]] 0, .row 4 [[(.v (.int .i64 (0))), (.v (.int .i64 (0))), .fsl [] false, (.v (.int .i64 (0)))]] 0, .row 4 (((x.timerE i q op).procs).map Pr.r) gp, .row 6 (((x.timerE i q op).out).map Evt.r) gc', .row 1 (((x.timerE i q op).gone).map keyC) gg', .row 14 [[(.v (.int .i64 ((x.timerE i q op).r0))), (.v (.int .i64 ((x.timerE i q op).r1))), .sl 2 gp 0 (x.timerE i q op).procs.length false, (.v (.int .i64 ((x.timerE i q op).sum))), (.v (.int .i64 ((x.timerE i q op).ev.time))), (.fsl (((x.timerE i q op).ev.key).map intC) false), (.v (.int .i64 ((x.timerE i q op).ev.lp))), (.v (.int .i64 ((x.timerE i q op).ev.kind))), (.v (.int .i64 ((x.timerE i q op).ev.proc))), (.v (.int .i64 ((x.timerE i q op).ev.arg))), .sl 3 gc' 0 (x.timerE i q op).out.length false, (.v (.int .i64 ((x.timerE i q op).n))), .sl 4 gg' 0 (x.timerE i q op).gone.length false, (.v (.bool ((x.timerE i q op).over)))]] 0, .mp .i64 tableL]) := by
  have h0 := stop_ev a0 a1 a2 am x gp gc gg op i q hi hq h
  have hev : (x.stopE i q).ev = x.ev := by unfold Ex.stopE; split <;> rfl
  have hpl : (x.stopE i q).procs.length = x.procs.length := by unfold Ex.stopE; split <;> simp
  have hp := (List.getElem?_eq_some_iff.1 hq).1
  have hsm : (x.stopE i q).Small := ⟨by rw [hpl]; exact h.procs, by unfold Ex.stopE; split <;> exact h.out, by
    unfold Ex.stopE; split
    · simp only [List.length_append, List.length_cons, List.length_nil]; omega
    · exact h.gone, by rw [hev]; exact h.key⟩
  generalize (if 0 < q.timer.length then gg + 1 else gg) = gg' at h0
  have hset2 : ∀ k : List Int, (x.stopE i q).procs.set i { q with timer := k } = x.procs.set i { q with timer := k } := fun k => by
    unfold Ex.stopE; split <;> simp
  have hq2 : ∃ q2, (x.stopE i q).procs[i]? = some q2 ∧ q2.prog = q.prog ∧ q2.pc = q.pc ∧ q2.alive = q.alive := by
    by_cases ht : 0 < q.timer.length
    · simp only [Ex.stopE, ht, if_true]
      exact ⟨{ q with timer := [] }, by rw [List.getElem?_set_self hp], rfl, rfl, rfl⟩
    · simp only [Ex.stopE, ht, if_false]
      exact ⟨q, hq, rfl, rfl, rfl⟩
  unfold Ex.timerE
  generalize x.stopE i q = y at h0 hev hpl hsm hset2 hq2
  obtain ⟨q2, hq2, e1, e2, e3⟩ := hq2
  have hi2 : y.ev.proc = i := by rw [hev]; exact hi
  have h1 := self7_ev a0 a1 a2 am y gp gc gg' i hi2 (by omega)
  have h2 := own_ev a0 a1 a2 am y gp gc gg' 2 y.ev.proc op.b
  have h3 := create_ev a0 a1 a2 am y gp gc gg' hsm op.a 0 y.ev.lp 2 y.ev.proc op.b []
  refine ⟨createG y op.a gc, gg', ?_⟩
  have hcp : (y.create op.a ⟨0, [], y.ev.lp, 2, y.ev.proc, op.b⟩).procs = y.procs := rfl
  simp only [Ex.ownE, Ex.setP, ← hev] at h0 ⊢
  generalize createG y op.a gc = gc' at h3
  generalize y.create op.a ⟨0, [], y.ev.lp, 2, y.ev.proc, op.b⟩ = z at h3 hcp
  have hset : (y.procs.map Pr.r).set i [(.v (.int .i64 (q2.prog))), (.v (.int .i64 (q2.pc))), (.v (.bool (q2.alive))), (.fsl ((y.kid).map intC) false)] = (y.procs.set i { q with timer := y.kid }).map Pr.r := by rw [List.map_set, e1, e2, e3]; rfl
  have hl : (y.procs.set i { q with timer := y.kid }).length = y.procs.length := by simp
  rw [evL_code ext_process_execution_timer code_process_execution_timer]
  simp only [List.map_nil, hcp] at h3
  simp only [c_process_execution_timer, h0, h1, h2, h3, hcp, hl, List.getElem?_map, Option.map_some, hq2, Pr.r, eq_procs, eq_evts, eq_keys, eq_ints, eq_table, ints_lo, procs_lo, evts_lo, keys_lo, Nat.reduceLT, Go.Ev.runFunc, Go.Ev.exec, Go.Ev.evOpers, Go.Ev.evOper, Go.Ev.item_op, Go.Ev.item_I, Go.Ev.item_R, Go.Ev.storeEq, Go.Ev.SObj.eqB, Go.Ev.eqBss_nil, Go.Ev.eqBss_cons, Go.Ev.eqBs_nil, Go.Ev.eqBs_cons, Go.Ev.eqB_int, Go.Ev.eqB_bool, Go.Ev.eqB_fsl, Go.Ev.eqB_sl, Go.Ev.evOp, Go.Ev.evs, Go.Ev.Opnd.ev, Go.Ev.Env.get, Go.Ev.Env.set, Go.Ev.look, Go.Ev.argVars, Go.Ev.cellsAt, Go.Ev.loadC, Go.Ev.AV.cells, Go.Ev.AV.uc, Go.Ev.plains, Go.Ev.AV.plain, Go.Ev.resVals, Go.Ev.resVal, Go.Ev.resOf, Go.Ev.kill, Go.Ev.leave, Go.Ev.storeLo, Go.Ev.SObj.lo, Go.Ev.lo_v, Go.Ev.lo_fsl, Go.Ev.lo_sl, Go.Ev.los_nil, Go.Ev.los_cons, Go.Ev.loss_nil, Go.Ev.loss_cons, ↓Go.Ev.obind, ↓reduceIte, List.length_cons, List.length_nil, List.getElem?_cons_zero, List.getElem?_cons_succ, List.take_succ_cons, List.take_zero, List.take_nil, List.drop_succ_cons, List.drop_zero, List.drop_nil, List.cons_append, List.nil_append, List.append_nil, List.set_cons_zero, List.set_cons_succ, List.head?_cons, Nat.reduceAdd, Nat.reduceEqDiff, Nat.reduceLT, reduceCtorEq, decide_true, Bool.and_self, Bool.false_eq_true, and_self, ne_eq, not_false_eq_true, List.cons_ne_nil, Nat.zero_add, Nat.le_refl, eq_self, beq_self_eq_true, hset]
end
end
end Go.Proofs.Ytdpeepljabbcfaa.K

namespace Go.Proofs.Ytdpeepljabbcfaa.K
open Go.Ev
set_option linter.unusedSimpArgs false
set_option linter.unusedVariables false
set_option maxRecDepth 10000
/-- One instruction, behind the counting on; and what it says of how to go on. -/
def stepE (x : Ex) (i : Nat) (q : Pr) (op : OpI) : Ex × Int :=
  if op.code = 1 then (x.create op.a (x.ownE 1 x.ev.proc 0), 1)
  else if op.code = 2 then (x.create op.c ⟨0, [], op.a, 3, 0, op.b⟩, 0)
  else if op.code = 3 then (x.timerE i q op, 0)
  else if op.code = 4 then (x.stopE i q, 0)
  else if op.code = 5 then (x.spawnE op, 0)
  else if op.code = 6 then (x.setReg op.a (w64 (x.reg op.a + op.b)), 0)
  else if op.code = 7 then (if x.reg op.a < op.b then x.setP i { q with pc := op.c } else x, 0)
  else (x, 2)
structure OpOk' (op : OpI) : Prop where
  code : 1 ≤ op.code ∧ op.code ≤ 8
  reg : op.code = 6 ∨ op.code = 7 → op.a = 0 ∨ op.a = 1
  to : op.code = 7 → 0 ≤ op.c ∧ op.c ≤ 1000000
section
variable (a0 a1 a2 : Int) (am : Nat) (x : Ex) (gp gc gg : Nat) (op : OpI) (i : Nat) (q : Pr)
theorem step_ev (h : x.Small) (hg : x.gone.length < 1000) (hi : x.ev.proc = i) (hq : x.procs[i]? = some q) (ho : OpOk' op) :
    ∃ k gp' gc' gg', getL op.code tableL = some (.fn (.func k) [] []) ∧ (evL T).call k [.ptr 5 0 0 0, (.agg [(.v (.int .i64 (op.code))), (.v (.int .i64 (op.a))), (.v (.int .i64 (op.b))), (.v (.int .i64 (op.c)))])] [.row 4 [[(.v (.int .i64 (a0))), (.v (.int .i64 (a1))), .sl 2 0 0 am false, (.v (.int .i64 (a2)))]] 0, .row 4 [[(.v (.int .i64 (0))), (.v (.int .i64 (0))), .fsl [] false, (.v (.int .i64 (0)))]] 0, .row 4 ((x.procs).map Pr.r) gp, .row 6 ((x.out).map Evt.r) gc, .row 1 ((x.gone).map keyC) gg, .row 14 [[(.v (.int .i64 (x.r0))), (.v (.int .i64 (x.r1))), .sl 2 gp 0 x.procs.length false, (.v (.int .i64 (x.sum))), (.v (.int .i64 (x.ev.time))), (.fsl ((x.ev.key).map intC) false), (.v (.int .i64 (x.ev.lp))), (.v (.int .i64 (x.ev.kind))), (.v (.int .i64 (x.ev.proc))), (.v (.int .i64 (x.ev.arg))), .sl 3 gc 0 x.out.length false, (.v (.int .i64 (x.n))), .sl 4 gg 0 x.gone.length false, (.v (.bool (x.over)))]] 0, .mp .i64 tableL] = some ((.v (.int .i64 ((stepE x i q op).2))), [.row 4 [[(.v (.int .i64 (a0))), (.v (.int .i64 (a1))), .sl 2 0 0 am false, (.v (.int .i64 (a2)))]] 0, .row 4 [[(.v (.int .i64 (0))), (.v (.int .i64 (0))), .fsl [] false, (.v (.int .i64 (0)))]] 0, .row 4 (((stepE x i q op).1.procs).map Pr.r) gp', .row 6 (((stepE x i q op).1.out).map Evt.r) gc', .row 1 (((stepE x i q op).1.gone).map keyC) gg', .row 14 [[(.v (.int .i64 ((stepE x i q op).1.r0))), (.v (.int .i64 ((stepE x i q op).1.r1))), .sl 2 gp' 0 (stepE x i q op).1.procs.length false, (.v (.int .i64 ((stepE x i q op).1.sum))), (.v (.int .i64 ((stepE x i q op).1.ev.time))), (.fsl (((stepE x i q op).1.ev.key).map intC) false), (.v (.int .i64 ((stepE x i q op).1.ev.lp))), (.v (.int .i64 ((stepE x i q op).1.ev.kind))), (.v (.int .i64 ((stepE x i q op).1.ev.proc))), (.v (.int .i64 ((stepE x i q op).1.ev.arg))), .sl 3 gc' 0 (stepE x i q op).1.out.length false, (.v (.int .i64 ((stepE x i q op).1.n))), .sl 4 gg' 0 (stepE x i q op).1.gone.length false, (.v (.bool ((stepE x i q op).1.over)))]] 0, .mp .i64 tableL]) := by
  have hc : op.code = 1 ∨ op.code = 2 ∨ op.code = 3 ∨ op.code = 4 ∨ op.code = 5 ∨ op.code = 6 ∨ op.code = 7 ∨ op.code = 8 := by have := ho.code; omega
  have ne : ∀ m n : Int, decide (m = n) = false → ¬ m = n := fun m n h => of_decide_eq_false h
  rcases hc with hc | hc | hc | hc | hc | hc | hc | hc
  · refine ⟨n_process_execution_hold, gp, createG x op.a gc, gg, by rw [hc]; rfl, ?_⟩
    have e : stepE x i q op = (x.create op.a (x.ownE 1 x.ev.proc 0), 1) := by simp [stepE, hc]
    rw [e]; exact hold_ev a0 a1 a2 am x gp gc gg op h
  · refine ⟨n_process_execution_send, gp, createG x op.c gc, gg, by rw [hc]; rfl, ?_⟩
    have e : stepE x i q op = (x.create op.c ⟨0, [], op.a, 3, 0, op.b⟩, 0) := by simp [stepE, hc]
    rw [e]; exact send_ev a0 a1 a2 am x gp gc gg op h
  · obtain ⟨gc', gg', hz⟩ := timer_ev a0 a1 a2 am x gp gc gg op i q hi hq h hg
    refine ⟨n_process_execution_timer, gp, gc', gg', by rw [hc]; rfl, ?_⟩
    have e : stepE x i q op = (x.timerE i q op, 0) := by simp [stepE, hc]
    rw [e]; exact hz
  · refine ⟨n_process_execution_stop, gp, gc, (if 0 < q.timer.length then gg + 1 else gg), by rw [hc]; rfl, ?_⟩
    have e : stepE x i q op = (x.stopE i q, 0) := by simp [stepE, hc]
    rw [e]; exact stop_ev a0 a1 a2 am x gp gc gg op i q hi hq h
  · obtain ⟨gp', gc', hz⟩ := spawn_ev a0 a1 a2 am x gp gc gg op h
    refine ⟨n_process_execution_spawn, gp', gc', gg, by rw [hc]; rfl, ?_⟩
    have e : stepE x i q op = (x.spawnE op, 0) := by simp [stepE, hc]
    rw [e]; exact hz
  · refine ⟨n_process_execution_add, gp, gc, gg, by rw [hc]; rfl, ?_⟩
    have e : stepE x i q op = (x.setReg op.a (w64 (x.reg op.a + op.b)), 0) := by simp [stepE, hc]
    rw [e]; exact add_ev a0 a1 a2 am x gp gc gg op (ho.reg (.inl hc))
  · refine ⟨n_process_execution_less, gp, gc, gg, by rw [hc]; rfl, ?_⟩
    have e : stepE x i q op = (if x.reg op.a < op.b then x.setP i { q with pc := op.c } else x, 0) := by simp [stepE, hc]
    rw [e]; exact less_ev a0 a1 a2 am x gp gc gg op i q hi hq (ho.reg (.inr hc))
  · refine ⟨n_process_execution_end, gp, gc, gg, by rw [hc]; rfl, ?_⟩
    have e : stepE x i q op = (x, 2) := by simp [stepE, hc]
    rw [e]; exact end_ev a0 a1 a2 am x gp gc gg op
end
def killE (x : Ex) (i : Nat) : Ex := match x.procs[i]? with
  | some q => x.setP i { q with alive := false }
  | none => x
/-- An activation with so much fuel left. -/
def actE (p : List OpI) (i : Nat) : Nat → Ex → Ex
  | 0, x => killE x i
  | n + 1, x => match x.procs[i]? with
    | none => x
    | some q => match p[q.pc.toNat]? with
      | none => killE x i
      | some op =>
        if (stepE (x.setP i { q with pc := w64 (q.pc + 1) }) i { q with pc := w64 (q.pc + 1) } op).2 = 1 then (stepE (x.setP i { q with pc := w64 (q.pc + 1) }) i { q with pc := w64 (q.pc + 1) } op).1
        else if (stepE (x.setP i { q with pc := w64 (q.pc + 1) }) i { q with pc := w64 (q.pc + 1) } op).2 = 2 then killE (stepE (x.setP i { q with pc := w64 (q.pc + 1) }) i { q with pc := w64 (q.pc + 1) } op).1 i
        else actE p i n (stepE (x.setP i { q with pc := w64 (q.pc + 1) }) i { q with pc := w64 (q.pc + 1) } op).1
/-- What holds of an execution all the while. -/
structure ActInv (e : Evt) (i n : Nat) (x : Ex) : Prop where
  ev : x.ev = e
  has : ∃ q, x.procs[i]? = some q ∧ 0 ≤ q.pc ∧ q.pc ≤ 1000000
  procs : x.procs.length ≤ 20
  out : x.out.length ≤ n
  gone : x.gone.length ≤ n
theorem ActInv.small {e : Evt} {i n : Nat} {x : Ex} (h : ActInv e i n x) (hn : n ≤ 100) (hk : e.key.length ≤ 1000) : x.Small := ⟨by have := h.procs; omega, by have := h.out; omega, by have := h.gone; omega, by rw [h.ev]; exact hk⟩
theorem create_out (x : Ex) (d : Int) (e : Evt) : (x.create d e).out.length ≤ x.out.length + 1 := by
  unfold Ex.create; simp only; split
  · omega
  · simp
theorem ActInv.step {e : Evt} {i n : Nat} {x : Ex} (h : ActInv e i n x) {q : Pr} (hq : x.procs[i]? = some q) (hpc : 0 ≤ q.pc ∧ q.pc ≤ 1000000) {op : OpI} (ho : OpOk' op) : ActInv e i (n + 1) (stepE x i q op).1 := by
  have hlt := (List.getElem?_eq_some_iff.1 hq).1
  have hp := h.procs
  have h1 := h.out
  have h2 := h.gone
  have stop : ActInv e i (n + 1) (x.stopE i q) ∧ (x.stopE i q).out = x.out := by
    unfold Ex.stopE; split
    · exact ⟨⟨h.ev, ⟨{ q with timer := [] }, by simp only; rw [List.getElem?_set_self hlt], hpc⟩, by simpa using hp, by simp only; omega, by simp; omega⟩, rfl⟩
    · exact ⟨⟨h.ev, ⟨q, hq, hpc⟩, hp, by omega, by omega⟩, rfl⟩
  have crt : ∀ (y : Ex) (d : Int) (ev : Evt), y.ev = e → (∃ q, y.procs[i]? = some q ∧ 0 ≤ q.pc ∧ q.pc ≤ 1000000) → y.procs.length ≤ 20 → y.out.length ≤ n → y.gone.length ≤ n + 1 → ActInv e i (n + 1) (y.create d ev) := fun y d ev k1 k2 k3 k4 k5 =>
    ⟨k1, k2, k3, by have := create_out y d ev; omega, k5⟩
  unfold stepE
  split
  · exact crt x _ _ h.ev ⟨q, hq, hpc⟩ hp h1 (by omega)
  split
  · exact crt x _ _ h.ev ⟨q, hq, hpc⟩ hp h1 (by omega)
  split
  · obtain ⟨s1, s2⟩ := stop
    have hc := crt (x.stopE i q) op.a (x.ownE 2 x.ev.proc op.b) s1.ev s1.has s1.procs (by rw [s2]; exact h1) s1.gone
    have hl : i < ((x.stopE i q).create op.a (x.ownE 2 x.ev.proc op.b)).procs.length := by
      obtain ⟨q', hq', _⟩ := hc.has
      exact (List.getElem?_eq_some_iff.1 hq').1
    exact ⟨hc.ev, ⟨{ q with timer := (x.stopE i q).kid }, by simp only [Ex.timerE, Ex.setP]; rw [List.getElem?_set_self hl], hpc⟩, by simp only [Ex.timerE, Ex.setP, List.length_set]; exact hc.procs, hc.out, hc.gone⟩
  split
  · exact stop.1
  split
  · unfold Ex.spawnE
    split
    · refine crt _ _ _ h.ev ⟨q, by simp only; rw [List.getElem?_append_left hlt]; exact hq, hpc⟩ (by simp; omega) h1 (by simp only; omega)
    · exact ⟨h.ev, ⟨q, hq, hpc⟩, hp, by first | omega | (simp only; omega), by first | omega | (simp only; omega)⟩
  split
  · unfold Ex.setReg
    split <;> exact ⟨h.ev, ⟨q, hq, hpc⟩, hp, by first | omega | (simp only; omega), by first | omega | (simp only; omega)⟩
  split
  · rename_i h7
    simp only
    split
    · exact ⟨h.ev, ⟨{ q with pc := op.c }, by simp only [Ex.setP]; rw [List.getElem?_set_self hlt], ho.to h7⟩, by simp only [Ex.setP, List.length_set]; exact hp, by simp only [Ex.setP]; omega, by simp only [Ex.setP]; omega⟩
    · exact ⟨h.ev, ⟨q, hq, hpc⟩, hp, by first | omega | (simp only; omega), by first | omega | (simp only; omega)⟩
  · exact ⟨h.ev, ⟨q, hq, hpc⟩, hp, by first | omega | (simp only; omega), by first | omega | (simp only; omega)⟩
end Go.Proofs.Ytdpeepljabbcfaa.K

namespace Go.Proofs.Ytdpeepljabbcfaa.K
open Go.Ev
set_option linter.unusedSimpArgs false
set_option linter.unusedVariables false
set_option maxRecDepth 10000
theorem ActInv.pc {e : Evt} {i n : Nat} {x : Ex} (h : ActInv e i n x) {q : Pr} (hq : x.procs[i]? = some q) {pc : Int} (hp : 0 ≤ pc ∧ pc ≤ 1000000) (al : Bool) : ActInv e i n (x.setP i { q with pc := pc, alive := al }) := by
  have hlt := (List.getElem?_eq_some_iff.1 hq).1
  exact ⟨h.ev, ⟨{ q with pc := pc, alive := al }, by simp only [Ex.setP]; rw [List.getElem?_set_self hlt], hp⟩, by simp only [Ex.setP, List.length_set]; exact h.procs, h.out, h.gone⟩
section
variable (a0 a1 a2 : Int) (am : Nat) (e0 : Evt) (i : Nat) (p : List OpI) (cl : Bool)
/-- Where the activation ends: what is left to do is to end the process, or nothing. -/
def ActEnd (a0 a1 a2 : Int) (am : Nat) (e0 : Evt) (i : Nat) (F : Ex) (y : CExit × Env × Store) : Prop :=
  ∃ z gp gc gg, y.2.2 = [.row 4 [[(.v (.int .i64 (a0))), (.v (.int .i64 (a1))), .sl 2 0 0 am false, (.v (.int .i64 (a2)))]] 0, .row 4 [[(.v (.int .i64 (0))), (.v (.int .i64 (0))), .fsl [] false, (.v (.int .i64 (0)))]] 0, .row 4 ((z.procs).map Pr.r) gp, .row 6 ((z.out).map Evt.r) gc, .row 1 ((z.gone).map keyC) gg, .row 14 [[(.v (.int .i64 (z.r0))), (.v (.int .i64 (z.r1))), .sl 2 gp 0 z.procs.length false, (.v (.int .i64 (z.sum))), (.v (.int .i64 (z.ev.time))), (.fsl ((z.ev.key).map intC) false), (.v (.int .i64 (z.ev.lp))), (.v (.int .i64 (z.ev.kind))), (.v (.int .i64 (z.ev.proc))), (.v (.int .i64 (z.ev.arg))), .sl 3 gc 0 z.out.length false, (.v (.int .i64 (z.n))), .sl 4 gg 0 z.gone.length false, (.v (.bool (z.over)))]] 0, .mp .i64 tableL] ∧ y.2.1.marks = [] ∧ ((y.1 = .ret ∧ z = F ∧ ActInv e0 i 16 z) ∨ (y.1 = .exit 0 ∧ Ev.look y.2.1.vars 0 = some (.ptr 5 0 0 0) ∧ killE z i = F ∧ ActInv e0 i 16 z))
theorem act_loop (hk : e0.key.length ≤ 1000) (hpr : e0.proc = i) (hpl : p.length ≤ 1000) (hok : ∀ op ∈ p, OpOk' op) (x : Ex) (gp gc gg : Nat) (h0 : ActInv e0 i 0 x) :
    ∃ y, itB (exec (evL T) itL none c_process_execution_activate_L1) (Ev.settle [0, 1, 4, 7] true 7) ⟨[(0, .ptr 5 0 0 0), (1, (.fsl ((p).map OpI.r) cl)), (4, .mp 6), (7, (.v (.int .i64 (0))))], []⟩ [.row 4 [[(.v (.int .i64 (a0))), (.v (.int .i64 (a1))), .sl 2 0 0 am false, (.v (.int .i64 (a2)))]] 0, .row 4 [[(.v (.int .i64 (0))), (.v (.int .i64 (0))), .fsl [] false, (.v (.int .i64 (0)))]] 0, .row 4 ((x.procs).map Pr.r) gp, .row 6 ((x.out).map Evt.r) gc, .row 1 ((x.gone).map keyC) gg, .row 14 [[(.v (.int .i64 (x.r0))), (.v (.int .i64 (x.r1))), .sl 2 gp 0 x.procs.length false, (.v (.int .i64 (x.sum))), (.v (.int .i64 (x.ev.time))), (.fsl ((x.ev.key).map intC) false), (.v (.int .i64 (x.ev.lp))), (.v (.int .i64 (x.ev.kind))), (.v (.int .i64 (x.ev.proc))), (.v (.int .i64 (x.ev.arg))), .sl 3 gc 0 x.out.length false, (.v (.int .i64 (x.n))), .sl 4 gg 0 x.gone.length false, (.v (.bool (x.over)))]] 0, .mp .i64 tableL] = some y ∧ ActEnd a0 a1 a2 am e0 i (actE p i 16 x) y := by
  have := itB_for (f := exec (evL T) itL none c_process_execution_activate_L1) (s := Ev.settle [0, 1, 4, 7] true 7) (α := Ex × Nat × Nat × Nat) (fun j _ => ⟨[(0, .ptr 5 0 0 0), (1, (.fsl ((p).map OpI.r) cl)), (4, .mp 6), (7, (.v (.int .i64 ((j : Int)))))], []⟩) (fun _ a => [.row 4 [[(.v (.int .i64 (a0))), (.v (.int .i64 (a1))), .sl 2 0 0 am false, (.v (.int .i64 (a2)))]] 0, .row 4 [[(.v (.int .i64 (0))), (.v (.int .i64 (0))), .fsl [] false, (.v (.int .i64 (0)))]] 0, .row 4 ((a.1.procs).map Pr.r) a.2.1, .row 6 ((a.1.out).map Evt.r) a.2.2.1, .row 1 ((a.1.gone).map keyC) a.2.2.2, .row 14 [[(.v (.int .i64 (a.1.r0))), (.v (.int .i64 (a.1.r1))), .sl 2 a.2.1 0 a.1.procs.length false, (.v (.int .i64 (a.1.sum))), (.v (.int .i64 (a.1.ev.time))), (.fsl ((a.1.ev.key).map intC) false), (.v (.int .i64 (a.1.ev.lp))), (.v (.int .i64 (a.1.ev.kind))), (.v (.int .i64 (a.1.ev.proc))), (.v (.int .i64 (a.1.ev.arg))), .sl 3 a.2.2.1 0 a.1.out.length false, (.v (.int .i64 (a.1.n))), .sl 4 a.2.2.2 0 a.1.gone.length false, (.v (.bool (a.1.over)))]] 0, .mp .i64 tableL])
    (fun j a => ActInv e0 i j a.1 ∧ actE p i (16 - j) a.1 = actE p i 16 x) 16 (ActEnd a0 a1 a2 am e0 i (actE p i 16 x)) ?_ ?_ 0 (x, gp, gc, gg) (Nat.zero_le _) ⟨h0, rfl⟩
  · exact this
  · rintro j ⟨y, gp, gc, gg⟩ hj ⟨hi1, hi2⟩
    simp only at hi1 hi2 ⊢
    obtain ⟨q, hq, hpc⟩ := hi1.has
    have hlt := (List.getElem?_eq_some_iff.1 hq).1
    have hpr' : y.ev.proc = i := by rw [hi1.ev]; exact hpr
    have hj' : (j : Int) < 16 := by omega
    have hw : IntKind.i64.wrap ((j : Int) + 1) = ((j + 1 : Nat) : Int) := by rw [w64_small (by omega) (by omega)]; simp
    have s1 := self7_ev a0 a1 a2 am y gp gc gg i hpr' hlt
    rw [show 16 - j = (16 - (j + 1)) + 1 from by omega, actE, hq] at hi2
    simp only at hi2
    cases hop : p[q.pc.toNat]? with
    | none =>
      rw [hop] at hi2
      simp only at hi2
      have hge : q.pc ≥ (p.length : Int) := by have := List.getElem?_eq_none_iff.1 hop; omega
      right
      simp only [c_process_execution_activate_L1, hj', hge, s1, List.getElem?_map, Option.map_some, hq, Pr.r, Go.Ev.exec, Go.Ev.evOpers, Go.Ev.evOper, Go.Ev.item_op, Go.Ev.item_I, Go.Ev.evOp, Go.Ev.evs, Go.Ev.Opnd.ev, Go.Ev.Env.get, Go.Ev.Env.set, Go.Ev.look, Go.Ev.cellsAt, Go.Ev.loadC, Go.Ev.bin_lss, Go.Ev.bin_geq, List.length_map, ↓Go.Ev.obind, Go.Ev.it1, ↓reduceIte, List.getElem?_cons_zero, List.getElem?_cons_succ, List.drop_succ_cons, List.drop_zero, List.head?_cons, Nat.reduceEqDiff, reduceCtorEq, decide_true, Bool.false_eq_true, Nat.zero_add, eq_self]
      exact ⟨_, rfl, y, gp, gc, gg, rfl, rfl, .inr ⟨rfl, rfl, hi2, ⟨hi1.ev, hi1.has, hi1.procs, by have := hi1.out; omega, by have := hi1.gone; omega⟩⟩⟩
    | some op =>
      rw [hop] at hi2
      simp only at hi2
      have hlp := (List.getElem?_eq_some_iff.1 hop).1
      have hge : ¬ q.pc ≥ (p.length : Int) := by omega
      have hwq : w64 (q.pc + 1) = q.pc + 1 := w64_small (by omega) (by omega)
      have hwq' : IntKind.i64.wrap (q.pc + 1) = q.pc + 1 := hwq
      have hset : (y.procs.map Pr.r).set i [(.v (.int .i64 (q.prog))), (.v (.int .i64 (q.pc + 1))), (.v (.bool (q.alive))), (.fsl ((q.timer).map intC) false)] = (y.procs.set i { q with pc := q.pc + 1 }).map Pr.r := by rw [List.map_set]; rfl
      have hl : (y.procs.set i { q with pc := q.pc + 1 }).length = y.procs.length := by simp
      rw [hwq] at hi2
      have hz : ActInv e0 i j (y.setP i { q with pc := q.pc + 1 }) := hi1.pc hq (by omega) q.alive
      have hzq : (y.setP i { q with pc := q.pc + 1 }).procs[i]? = some { q with pc := q.pc + 1 } := by simp only [Ex.setP]; rw [List.getElem?_set_self hlt]
      have hzp : (y.setP i { q with pc := q.pc + 1 }).ev.proc = i := hpr'
      have hoo := hok op (List.mem_of_getElem? hop)
      have hn := hz.step hzq (show 0 ≤ q.pc + 1 ∧ q.pc + 1 ≤ 1000000 by omega) hoo
      obtain ⟨k, gp', gc', gg', t1, t2⟩ := step_ev a0 a1 a2 am (y.setP i { q with pc := q.pc + 1 }) gp gc gg op i { q with pc := q.pc + 1 } (hz.small (by omega) hk) (by have := hz.gone; omega) hzp hzq hoo
      generalize hS : stepE (y.setP i { q with pc := q.pc + 1 }) i { q with pc := q.pc + 1 } op = S at hi2 hn t2
      obtain ⟨z, sig⟩ := S
      simp only at hi2 hn t2
      have hsig : sig = 0 ∨ sig = 1 ∨ sig = 2 := by
        have : (stepE (y.setP i { q with pc := q.pc + 1 }) i { q with pc := q.pc + 1 } op).2 = sig := by rw [hS]
        rw [← this]
        unfold stepE
        repeat' (first | (split) | exact .inl rfl | exact .inr (.inl rfl) | exact .inr (.inr rfl))
      simp only [Ex.setP, hl] at t2
      obtain ⟨qz, hqz, hqzp⟩ := hn.has
      have hltz := (List.getElem?_eq_some_iff.1 hqz).1
      have s2 := self7_ev a0 a1 a2 am z gp' gc' gg' i (by rw [hn.ev]; exact hpr) hltz
      rcases hsig with rfl | rfl | rfl
      · left
        refine ⟨(z, gp', gc', gg'), ?_, hn, ?_⟩
        · simp only [c_process_execution_activate_L1, hj', hge, s1, hpc, hop, hwq', t1, t2, hw, List.getElem?_map, Option.map_some, hq, Pr.r, OpI.r, prog_lo, ints_lo, procs_lo, evts_lo, keys_lo, Nat.reduceLT, Nat.reduceLeDiff, Go.Ev.exec, Go.Ev.evOpers, Go.Ev.evOper, Go.Ev.item_op, Go.Ev.item_I, Go.Ev.item_v, Go.Ev.evOp, Go.Ev.evs, Go.Ev.Opnd.ev, Go.Ev.Env.get, Go.Ev.Env.set, Go.Ev.look, Go.Ev.cellsAt, Go.Ev.loadC, Go.Ev.AV.cells, Go.Ev.AV.uc, Go.Ev.plains, Go.Ev.AV.plain, Go.Ev.bin_add, Go.Ev.bin_eql, Go.Ev.bin_lss, Go.Ev.bin_geq, Go.Ev.settle, Go.Ev.keep, Go.Ev.varsLo, Go.Ev.marksLo, Go.Ev.storeLo, Go.Ev.SObj.lo, Go.Ev.lo_v, Go.Ev.lo_fsl, Go.Ev.lo_sl, Go.Ev.lo_ptr, Go.Ev.lo_mp, Go.Ev.gotL, Go.Ev.los_nil, Go.Ev.los_cons, Go.Ev.loss_nil, Go.Ev.loss_cons, List.length_map, ↓Go.Ev.obind, Go.Ev.it1, ↓reduceIte, List.length_cons, List.length_nil, List.getElem?_cons_zero, List.getElem?_cons_succ, List.take_succ_cons, List.take_zero, List.take_nil, List.drop_succ_cons, List.drop_zero, List.cons_append, List.nil_append, List.append_nil, List.set_cons_zero, List.set_cons_succ, List.head?_cons, Nat.reduceAdd, Nat.reduceEqDiff, Nat.reduceLT, Nat.reduceLeDiff, Int.reduceEq, reduceCtorEq, decide_true, decide_false, Bool.and_self, Bool.false_eq_true, and_self, Nat.zero_add, Nat.lt_add_one, Nat.le_refl, eq_self, hset]
        · simp only [show ¬ (0 : Int) = 1 from by decide, show ¬ (0 : Int) = 2 from by decide, if_false] at hi2
          exact hi2
      · right
        simp only [if_true] at hi2
        simp only [c_process_execution_activate_L1, hj', hge, s1, hpc, hop, hwq', t1, t2, List.getElem?_map, Option.map_some, hq, Pr.r, OpI.r, Nat.reduceLeDiff, Go.Ev.exec, Go.Ev.evOpers, Go.Ev.evOper, Go.Ev.item_op, Go.Ev.item_I, Go.Ev.item_v, Go.Ev.evOp, Go.Ev.evs, Go.Ev.Opnd.ev, Go.Ev.Env.get, Go.Ev.Env.set, Go.Ev.look, Go.Ev.cellsAt, Go.Ev.loadC, Go.Ev.AV.cells, Go.Ev.AV.uc, Go.Ev.plains, Go.Ev.AV.plain, Go.Ev.bin_add, Go.Ev.bin_eql, Go.Ev.bin_lss, Go.Ev.bin_geq, Go.Ev.gotL, List.length_map, ↓Go.Ev.obind, Go.Ev.it1, ↓reduceIte, List.length_cons, List.length_nil, List.getElem?_cons_zero, List.getElem?_cons_succ, List.take_succ_cons, List.take_zero, List.take_nil, List.drop_succ_cons, List.drop_zero, List.cons_append, List.nil_append, List.append_nil, List.set_cons_zero, List.set_cons_succ, List.head?_cons, Nat.reduceAdd, Nat.reduceEqDiff, Nat.reduceLeDiff, reduceCtorEq, decide_true, decide_false, Bool.and_self, Bool.false_eq_true, and_self, Nat.zero_add, Nat.le_refl, eq_self, hset]
        exact ⟨_, rfl, z, gp', gc', gg', rfl, rfl, .inl ⟨rfl, hi2, ⟨hn.ev, hn.has, hn.procs, by have := hn.out; omega, by have := hn.gone; omega⟩⟩⟩
      · right
        simp only [show ¬ (2 : Int) = 1 from by decide, if_true, if_false] at hi2
        have hkz : killE z i = z.setP i { qz with alive := false } := by unfold killE; rw [hqz]
        rw [hkz] at hi2
        have hset2 : (z.procs.map Pr.r).set i [(.v (.int .i64 (qz.prog))), (.v (.int .i64 (qz.pc))), (.v (.bool (false))), (.fsl ((qz.timer).map intC) false)] = (z.procs.set i { qz with alive := false }).map Pr.r := by rw [List.map_set]; rfl
        have hl2 : (z.procs.set i { qz with alive := false }).length = z.procs.length := by simp
        have hfin := hn.pc hqz hqzp false
        simp only [c_process_execution_activate_L1, hj', hge, s1, hpc, hop, hwq', t1, t2, s2, List.getElem?_map, Option.map_some, hq, hqz, Pr.r, OpI.r, Nat.reduceLeDiff, Go.Ev.exec, Go.Ev.evOpers, Go.Ev.evOper, Go.Ev.item_op, Go.Ev.item_I, Go.Ev.item_v, Go.Ev.evOp, Go.Ev.evs, Go.Ev.Opnd.ev, Go.Ev.Env.get, Go.Ev.Env.set, Go.Ev.look, Go.Ev.cellsAt, Go.Ev.loadC, Go.Ev.AV.cells, Go.Ev.AV.uc, Go.Ev.plains, Go.Ev.AV.plain, Go.Ev.bin_add, Go.Ev.bin_eql, Go.Ev.bin_lss, Go.Ev.bin_geq, Go.Ev.gotL, List.length_map, ↓Go.Ev.obind, Go.Ev.it1, ↓reduceIte, List.length_cons, List.length_nil, List.getElem?_cons_zero, List.getElem?_cons_succ, List.take_succ_cons, List.take_zero, List.take_nil, List.drop_succ_cons, List.drop_zero, List.cons_append, List.nil_append, List.append_nil, List.set_cons_zero, List.set_cons_succ, List.head?_cons, Nat.reduceAdd, Nat.reduceEqDiff, Nat.reduceLeDiff, Int.reduceEq, reduceCtorEq, decide_true, decide_false, Bool.and_self, Bool.false_eq_true, and_self, Nat.zero_add, Nat.le_refl, eq_self, hset, hset2]
        refine ⟨_, rfl, z.setP i { qz with alive := false }, gp', gc', gg', ?_, rfl, .inl ⟨rfl, hi2, ⟨hfin.ev, hfin.has, hfin.procs, by have := hfin.out; omega, by have := hfin.gone; omega⟩⟩⟩
        simp only [Ex.setP, hl2]
  · rintro ⟨y, gp, gc, gg⟩ ⟨hi1, hi2⟩
    simp only [c_process_execution_activate_L1, Int.lt_irrefl, Go.Ev.exec, Go.Ev.evOpers, Go.Ev.evOper, Go.Ev.item_op, Go.Ev.evOp, Go.Ev.Opnd.ev, Go.Ev.Env.get, Go.Ev.Env.set, Go.Ev.look, Go.Ev.bin_lss, ↓Go.Ev.obind, Go.Ev.it1, ↓reduceIte, Nat.reduceEqDiff, Int.cast_ofNat_Int, reduceCtorEq, decide_false, Bool.false_eq_true, eq_self]
    exact ⟨_, rfl, y, gp, gc, gg, rfl, rfl, .inr ⟨rfl, rfl, hi2, hi1⟩⟩
end
end Go.Proofs.Ytdpeepljabbcfaa.K

namespace Go.Proofs.Ytdpeepljabbcfaa.K
open Go.Ev
set_option linter.unusedSimpArgs false
set_option linter.unusedVariables false
set_option maxRecDepth 10000
theorem instructions_ev : (evL T).call n_process_instructions [] [] = some (.mp 0, [.mp .i64 tableL]) := by
  rw [evL_code ext_process_instructions code_process_instructions]
  simp only [c_process_instructions, tableL, Go.Ev.runFunc, Go.Ev.exec, Go.Ev.evOpers, Go.Ev.evOper, Go.Ev.item_op, Go.Ev.evOp, Go.Ev.Opnd.ev, Go.Ev.Env.get, Go.Ev.Env.set, Go.Ev.look, Go.Ev.argVars, Go.Ev.resVals, Go.Ev.resVal, Go.Ev.resOf, Go.Ev.kill, Go.Ev.leave, Go.Ev.storeLo, Go.Ev.lo_fn, Go.Ev.lo_mp, Go.Ev.putL, Go.Ev.los_nil, ↓Go.Ev.obind, ↓reduceIte, List.length_nil, List.getElem?_cons_zero, List.take_zero, List.nil_append, List.set_cons_zero, Nat.reduceLT, Int.reduceEq, decide_false, Bool.and_self, Bool.false_eq_true, and_self, and_true, eq_self]
section
variable (a0 a1 a2 : Int) (am : Nat) (e0 : Evt) (i : Nat) (p : List OpI) (cl : Bool)
theorem activate_ev (hk : e0.key.length ≤ 1000) (hpr : e0.proc = i) (hpl : p.length ≤ 1000) (hok : ∀ op ∈ p, OpOk' op) (x : Ex) (gp gc gg : Nat) (h0 : ActInv e0 i 0 x) :
    ∃ gp' gc' gg', (evL T).call n_process_execution_activate [.ptr 5 0 0 0, (.fsl ((p).map OpI.r) cl)] [.row 4 [[(.v (.int .i64 (a0))), (.v (.int .i64 (a1))), .sl 2 0 0 am false, (.v (.int .i64 (a2)))]] 0, .row 4 [[(.v (.int .i64 (0))), (.v (.int .i64 (0))), .fsl [] false, (.v (.int .i64 (0)))]] 0, .row 4 ((x.procs).map Pr.r) gp, .row 6 ((x.out).map Evt.r) gc, .row 1 ((x.gone).map keyC) gg, .row 14 [[(.v (.int .i64 (x.r0))), (.v (.int .i64 (x.r1))), .sl 2 gp 0 x.procs.length false, (.v (.int .i64 (x.sum))), (.v (.int .i64 (x.ev.time))), (.fsl ((x.ev.key).map intC) false), (.v (.int .i64 (x.ev.lp))), (.v (.int .i64 (x.ev.kind))), (.v (.int .i64 (x.ev.proc))), (.v (.int .i64 (x.ev.arg))), .sl 3 gc 0 x.out.length false, (.v (.int .i64 (x.n))), .sl 4 gg 0 x.gone.length false, (.v (.bool (x.over)))]] 0] = some (.tup [], [.row 4 [[(.v (.int .i64 (a0))), (.v (.int .i64 (a1))), .sl 2 0 0 am false, (.v (.int .i64 (a2)))]] 0, .row 4 [[(.v (.int .i64 (0))), (.v (.int .i64 (0))), .fsl [] false, (.v (.int .i64 (0)))]] 0, .row 4 (((actE p i 16 x).procs).map Pr.r) gp', .row 6 (((actE p i 16 x).out).map Evt.r) gc', .row 1 (((actE p i 16 x).gone).map keyC) gg', .row 14 [[(.v (.int .i64 ((actE p i 16 x).r0))), (.v (.int .i64 ((actE p i 16 x).r1))), .sl 2 gp' 0 (actE p i 16 x).procs.length false, (.v (.int .i64 ((actE p i 16 x).sum))), (.v (.int .i64 ((actE p i 16 x).ev.time))), (.fsl (((actE p i 16 x).ev.key).map intC) false), (.v (.int .i64 ((actE p i 16 x).ev.lp))), (.v (.int .i64 ((actE p i 16 x).ev.kind))), (.v (.int .i64 ((actE p i 16 x).ev.proc))), (.v (.int .i64 ((actE p i 16 x).ev.arg))), .sl 3 gc' 0 (actE p i 16 x).out.length false, (.v (.int .i64 ((actE p i 16 x).n))), .sl 4 gg' 0 (actE p i 16 x).gone.length false, (.v (.bool ((actE p i 16 x).over)))]] 0]) ∧ ActInv e0 i 16 (actE p i 16 x) := by
  obtain ⟨⟨y, e, σ⟩, k1, z, gp', gc', gg', k2, k3, k4⟩ := act_loop a0 a1 a2 am e0 i p cl hk hpr hpl hok x gp gc gg h0
  simp only at k2 k3 k4
  subst k2
  generalize actE p i 16 x = F at k4
  rw [evL_code ext_process_execution_activate code_process_execution_activate]
  rcases k4 with ⟨rfl, rfl, k5⟩ | ⟨rfl, k5, k6, k7⟩
  · refine ⟨gp', gc', gg', ?_, k5⟩
    simp only [c_process_execution_activate, instructions_ev, k1, k3, prog_lo, ints_lo, procs_lo, evts_lo, keys_lo, Nat.reduceLT, Go.Ev.runFunc, Go.Ev.exec, Go.Ev.evOpers, Go.Ev.evOper, Go.Ev.item_op, Go.Ev.item_A, Go.Ev.impO, Go.Ev.AV.shift, Go.Ev.evOp, Go.Ev.evs, Go.Ev.Opnd.ev, Go.Ev.Env.get, Go.Ev.Env.set, Go.Ev.look, Go.Ev.argVars, Go.Ev.resVals, Go.Ev.resOf, Go.Ev.kill, Go.Ev.leave, Go.Ev.settle, Go.Ev.keep, Go.Ev.varsLo, Go.Ev.marksLo, Go.Ev.storeLo, Go.Ev.SObj.lo, Go.Ev.lo_v, Go.Ev.lo_tup, Go.Ev.lo_fsl, Go.Ev.lo_sl, Go.Ev.lo_ptr, Go.Ev.lo_mp, Go.Ev.los_nil, Go.Ev.los_cons, Go.Ev.loss_nil, Go.Ev.loss_cons, Go.Ev.omap_nil, Go.Ev.omap_cons, ↓Go.Ev.obind, ↓Go.Ev.itL_itB, ↓reduceIte, List.length_cons, List.length_nil, List.take_succ_cons, List.take_zero, List.take_nil, List.cons_append, List.nil_append, Nat.reduceAdd, Nat.reduceEqDiff, Nat.reduceLT, reduceCtorEq, decide_true, Bool.and_self, and_self, Nat.zero_add, Nat.lt_add_one, eq_self]
  · obtain ⟨q, hq, hpc⟩ := k7.has
    have hlt := (List.getElem?_eq_some_iff.1 hq).1
    have s2 := self7_ev a0 a1 a2 am z gp' gc' gg' i (by rw [k7.ev]; exact hpr) hlt
    have hkz : killE z i = z.setP i { q with alive := false } := by unfold killE; rw [hq]
    rw [hkz] at k6
    have hset : (z.procs.map Pr.r).set i [(.v (.int .i64 (q.prog))), (.v (.int .i64 (q.pc))), (.v (.bool (false))), (.fsl ((q.timer).map intC) false)] = (z.procs.set i { q with alive := false }).map Pr.r := by rw [List.map_set]; rfl
    have hl : (z.procs.set i { q with alive := false }).length = z.procs.length := by simp
    have hfin := k7.pc hq hpc false
    subst k6
    refine ⟨gp', gc', gg', ?_, hfin⟩
    simp only [Ex.setP, hl]
    simp only [c_process_execution_activate, instructions_ev, k1, k3, k5, s2, List.getElem?_map, Option.map_some, hq, Pr.r, prog_lo, ints_lo, procs_lo, evts_lo, keys_lo, Nat.reduceLT, Nat.reduceLeDiff, Go.Ev.runFunc, Go.Ev.exec, Go.Ev.evOpers, Go.Ev.evOper, Go.Ev.item_op, Go.Ev.item_A, Go.Ev.item_I, Go.Ev.impO, Go.Ev.AV.shift, Go.Ev.evOp, Go.Ev.evs, Go.Ev.Opnd.ev, Go.Ev.Env.get, Go.Ev.Env.set, Go.Ev.look, Go.Ev.argVars, Go.Ev.AV.cells, Go.Ev.AV.uc, Go.Ev.plains, Go.Ev.AV.plain, Go.Ev.resVals, Go.Ev.resOf, Go.Ev.kill, Go.Ev.leave, Go.Ev.settle, Go.Ev.keep, Go.Ev.varsLo, Go.Ev.marksLo, Go.Ev.storeLo, Go.Ev.SObj.lo, Go.Ev.lo_v, Go.Ev.lo_tup, Go.Ev.lo_fsl, Go.Ev.lo_sl, Go.Ev.lo_ptr, Go.Ev.lo_mp, Go.Ev.los_nil, Go.Ev.los_cons, Go.Ev.loss_nil, Go.Ev.loss_cons, Go.Ev.omap_nil, Go.Ev.omap_cons, ↓Go.Ev.obind, ↓Go.Ev.itL_itB, ↓reduceIte, List.length_cons, List.length_nil, List.getElem?_cons_zero, List.getElem?_cons_succ, List.take_succ_cons, List.take_zero, List.take_nil, List.drop_succ_cons, List.drop_zero, List.cons_append, List.nil_append, List.set_cons_zero, List.set_cons_succ, Nat.reduceAdd, Nat.reduceEqDiff, Nat.reduceLT, Nat.reduceLeDiff, reduceCtorEq, decide_true, Bool.and_self, and_self, Nat.zero_add, Nat.lt_add_one, eq_self, hset]
end
end Go.Proofs.Ytdpeepljabbcfaa.K
