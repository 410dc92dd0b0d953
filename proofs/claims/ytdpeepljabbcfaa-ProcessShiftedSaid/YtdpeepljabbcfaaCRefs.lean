/- Part of the proofs about this seat's program (module CRefs). -/
import Derived.Test.YtdpeepljabbcfaaCExecs
import Derived.Test.YtdpeepljabbcfaaCSames
set_option linter.unusedSectionVars false
set_option linter.unusedSimpArgs false
set_option linter.unusedVariables false
namespace Go.Proofs.Ytdpeepljabbcfaa.K
open Go.Ev
set_option linter.unusedSimpArgs false
set_option linter.unusedVariables false
set_option maxRecDepth 10000
theorem ref03_Child_ev (l : List Int) (c : Bool) (n : Int) (h : l.length ≤ 1000) : callZ (evL T) n_ref03_Child [(.fsl ((l).map intC) c), (.v (.int .i64 (n)))] = some (.fsl ((l ++ [n]).map intC) false) := by
  have h' : (l.length + 1) * 8 ≤ 140737488355328 := by omega
  have h2 : l.length * 8 ≤ 140737488355328 := by omega
  have htl : List.take l.length (l.map intC) = l.map intC := List.take_of_length_le (by simp)
  have htk : ∀ e : List AV, List.take (l.length + 1) (l.map intC ++ [e]) = l.map intC ++ [e] := fun e => List.take_of_length_le (by simp)
  have hr : (l ++ [n]).map intC = l.map intC ++ [[(.v (.int .i64 (n)))]] := by rw [List.map_append]; rfl
  rw [callZ, evL_code ext_ref03_Child code_ref03_Child]
  rw [hr]
  simp only [c_ref03_Child, h', h2, htl, htk, loss_app, ints_ok, ints_lo, Go.Ev.runFunc, Go.Ev.exec, Go.Ev.evOpers, Go.Ev.evOper, Go.Ev.item_op, Go.Ev.evOp, Go.Ev.appE, Go.Ev.Opnd.ev, Go.Ev.Env.get, Go.Ev.Env.set, Go.Ev.look, Go.Ev.argVars, Go.Ev.content, Go.Ev.fillR, Go.Ev.AV.cells, Go.Ev.AV.uc, Go.Ev.plains, Go.Ev.AV.plain, Go.Ev.resVals, Go.Ev.resVal, Go.Ev.resOf, Go.Ev.kill, Go.Ev.leave, Go.Ev.storeLo, Go.Ev.lo_v, Go.Ev.lo_sl, Go.Ev.los_nil, Go.Ev.los_cons, Go.Ev.loss_nil, Go.Ev.loss_cons, Go.Ev.okRows_nil, Go.Ev.okRows_cons, Go.Ev.frz_own, Go.Ev.omap_los, List.replicate_one, List.replicate_zero, List.length_map, ↓Go.Ev.obind, ↓reduceIte, List.length_cons, List.length_nil, List.length_append, List.getElem?_cons_zero, List.take_zero, List.drop_zero, List.nil_append, List.set_cons_zero, Nat.reduceAdd, Nat.reduceEqDiff, Nat.reduceMul, Nat.reduceLT, Nat.reduceLeDiff, Nat.reducePow, reduceCtorEq, decide_true, decide_false, Bool.and_self, Bool.false_eq_true, and_self, and_true, ne_eq, not_false_eq_true, not_true_eq_false, List.cons_ne_nil, Nat.zero_add, Nat.lt_add_one, Nat.le_refl, eq_self, and_false]
theorem ref20_cancelled_ev (l : List (List Int)) (k : List Int) (c : Bool) (h : l.length ≤ 1000) : callZ (evL T) n_ref20_cancelled [(.fsl ((l).map keyC) c), (.fsl ((k).map intC) false)] = some (.fsl ((l ++ [k]).map keyC) false) := by
  have h' : (l.length + 1) * 24 ≤ 140737488355328 := by omega
  have h2 : l.length * 24 ≤ 140737488355328 := by omega
  have htl : List.take l.length (l.map keyC) = l.map keyC := List.take_of_length_le (by simp)
  have htk : ∀ e : List AV, List.take (l.length + 1) (l.map keyC ++ [e]) = l.map keyC ++ [e] := fun e => List.take_of_length_le (by simp)
  have hr : (l ++ [k]).map keyC = l.map keyC ++ [[(.fsl ((k).map intC) false)]] := by rw [List.map_append]; rfl
  rw [callZ, evL_code ext_ref20_cancelled code_ref20_cancelled]
  rw [hr]
  simp only [c_ref20_cancelled, h', h2, htl, htk, loss_app, keys_ok, keys_lo, ints_lo, Go.Ev.runFunc, Go.Ev.exec, Go.Ev.evOpers, Go.Ev.evOper, Go.Ev.item_op, Go.Ev.evOp, Go.Ev.appE, Go.Ev.Opnd.ev, Go.Ev.Env.get, Go.Ev.Env.set, Go.Ev.look, Go.Ev.argVars, Go.Ev.content, Go.Ev.fillR, Go.Ev.AV.cells, Go.Ev.AV.uc, Go.Ev.plains, Go.Ev.AV.plain, Go.Ev.resVals, Go.Ev.resVal, Go.Ev.resOf, Go.Ev.kill, Go.Ev.leave, Go.Ev.storeLo, Go.Ev.lo_fsl, Go.Ev.lo_sl, Go.Ev.los_nil, Go.Ev.los_cons, Go.Ev.loss_nil, Go.Ev.loss_cons, Go.Ev.okRows_nil, Go.Ev.okRows_cons, Go.Ev.frz_own, Go.Ev.omap_los, List.replicate_one, List.replicate_zero, List.length_map, ↓Go.Ev.obind, ↓reduceIte, List.length_cons, List.length_nil, List.length_append, List.getElem?_cons_zero, List.take_zero, List.drop_zero, List.nil_append, List.set_cons_zero, Nat.reduceAdd, Nat.reduceEqDiff, Nat.reduceMul, Nat.reduceLT, Nat.reduceLeDiff, Nat.reducePow, reduceCtorEq, decide_true, decide_false, Bool.and_self, Bool.false_eq_true, and_self, and_true, ne_eq, not_false_eq_true, not_true_eq_false, List.cons_ne_nil, Nat.zero_add, Nat.lt_add_one, Nat.le_refl, eq_self, and_false]
section
variable (x : Ex)
theorem ref20_put_ev (h : x.procs.length ≤ 1000) (i : Nat) (hi : i < x.procs.length) (q : Pr) : callZ (evL T) n_ref20_put [(.agg [(.v (.int .i64 (x.r0))), (.v (.int .i64 (x.r1))), (.fsl ((x.procs).map Pr.r) false), (.v (.int .i64 (x.sum))), (.v (.int .i64 (x.ev.time))), (.fsl ((x.ev.key).map intC) false), (.v (.int .i64 (x.ev.lp))), (.v (.int .i64 (x.ev.kind))), (.v (.int .i64 (x.ev.proc))), (.v (.int .i64 (x.ev.arg))), (.fsl ((x.out).map Evt.r) false), (.fsl ((x.gone).map keyC) false), (.v (.int .i64 (x.n))), (.v (.bool (x.over)))]), (.v (.int .i64 (i))), (.agg [(.v (.int .i64 (q.prog))), (.v (.int .i64 (q.pc))), (.v (.bool (q.alive))), (.fsl ((q.timer).map intC) false)])] = some (.agg [(.v (.int .i64 ((x.setP i q).r0))), (.v (.int .i64 ((x.setP i q).r1))), (.fsl (((x.setP i q).procs).map Pr.r) false), (.v (.int .i64 ((x.setP i q).sum))), (.v (.int .i64 ((x.setP i q).ev.time))), (.fsl (((x.setP i q).ev.key).map intC) false), (.v (.int .i64 ((x.setP i q).ev.lp))), (.v (.int .i64 ((x.setP i q).ev.kind))), (.v (.int .i64 ((x.setP i q).ev.proc))), (.v (.int .i64 ((x.setP i q).ev.arg))), (.fsl (((x.setP i q).out).map Evt.r) false), (.fsl (((x.setP i q).gone).map keyC) false), (.v (.int .i64 ((x.setP i q).n))), (.v (.bool ((x.setP i q).over)))]) := by
  have h2 : x.procs.length * 48 ≤ 140737488355328 := by omega
  have htl : ∀ e : List AV, List.take x.procs.length ((x.procs.map Pr.r).set i e) = (x.procs.map Pr.r).set i e := fun e => List.take_of_length_le (by simp)
  have hset : (x.procs.map Pr.r).set i [(.v (.int .i64 (q.prog))), (.v (.int .i64 (q.pc))), (.v (.bool (q.alive))), (.fsl ((q.timer).map intC) false)] = (x.procs.set i q).map Pr.r := by rw [List.map_set]; rfl
  obtain ⟨q0, hq⟩ : ∃ q0, x.procs[i]? = some q0 := ⟨_, List.getElem?_eq_getElem hi⟩
  have ft : ∀ {τ : Type} (l : List τ) (f : τ → List AV), List.take l.length (l.map f) = l.map f := fun l f => List.take_of_length_le (by simp)
  have htl2 : List.take x.procs.length ((x.procs.set i q).map Pr.r) = (x.procs.set i q).map Pr.r := List.take_of_length_le (by simp)
  unfold Ex.setP
  rw [callZ, evL_code ext_ref20_put code_ref20_put]
  simp only [c_ref20_put, htl2, h2, hi, hq, hset, procs_ok, Pr.r, Int.natCast_nonneg, Int.toNat_natCast, List.getElem?_map, Option.map_some, ints_lo, procs_lo, evts_lo, keys_lo, Nat.reduceLT, Nat.reduceLeDiff, Go.Ev.runFunc, Go.Ev.exec, Go.Ev.evOpers, Go.Ev.evOper, Go.Ev.item_op, Go.Ev.evOp, Go.Ev.Opnd.ev, Go.Ev.Env.get, Go.Ev.Env.set, Go.Ev.look, Go.Ev.argVars, Go.Ev.cellsAt, Go.Ev.content, Go.Ev.loadC, Go.Ev.fillR, Go.Ev.AV.cells, Go.Ev.AV.uc, Go.Ev.plains, Go.Ev.AV.plain, Go.Ev.resVals, Go.Ev.resVal, Go.Ev.resOf, Go.Ev.kill, Go.Ev.leave, Go.Ev.storeLo, Go.Ev.lo_v, Go.Ev.lo_agg, Go.Ev.lo_fsl, Go.Ev.los_nil, Go.Ev.los_cons, Go.Ev.frz_lo, List.length_set, List.replicate_zero, List.length_map, ↓Go.Ev.obind, ↓reduceIte, List.length_cons, List.length_nil, List.getElem?_cons_zero, List.getElem?_cons_succ, List.take_succ_cons, List.take_zero, List.take_nil, List.drop_succ_cons, List.drop_zero, List.drop_nil, List.cons_append, List.nil_append, List.append_nil, List.set_cons_zero, List.set_cons_succ, List.head?_cons, Nat.reduceAdd, Nat.reduceEqDiff, Nat.reduceMul, Nat.reduceLT, Nat.reduceLeDiff, Nat.reducePow, reduceCtorEq, Bool.and_self, Bool.false_eq_true, and_self, ne_eq, not_false_eq_true, not_true_eq_false, List.cons_ne_nil, Nat.zero_add, Nat.add_zero, Nat.le_refl, eq_self, and_false]
theorem ref20_create_ev (h : x.Small) (d : Int) (t0 lp k p a : Int) (ks : List Int) :
    callZ (evL T) n_ref20_create [(.agg [(.v (.int .i64 (x.r0))), (.v (.int .i64 (x.r1))), (.fsl ((x.procs).map Pr.r) false), (.v (.int .i64 (x.sum))), (.v (.int .i64 (x.ev.time))), (.fsl ((x.ev.key).map intC) false), (.v (.int .i64 (x.ev.lp))), (.v (.int .i64 (x.ev.kind))), (.v (.int .i64 (x.ev.proc))), (.v (.int .i64 (x.ev.arg))), (.fsl ((x.out).map Evt.r) false), (.fsl ((x.gone).map keyC) false), (.v (.int .i64 (x.n))), (.v (.bool (x.over)))]), (.v (.int .i64 (d))), .agg [(.v (.int .i64 (t0))), (.fsl ((ks).map intC) false), (.v (.int .i64 (lp))), (.v (.int .i64 (k))), (.v (.int .i64 (p))), (.v (.int .i64 (a)))]] = some (.tup [(.agg [(.v (.int .i64 ((x.create d ⟨t0, ks, lp, k, p, a⟩).r0))), (.v (.int .i64 ((x.create d ⟨t0, ks, lp, k, p, a⟩).r1))), (.fsl (((x.create d ⟨t0, ks, lp, k, p, a⟩).procs).map Pr.r) false), (.v (.int .i64 ((x.create d ⟨t0, ks, lp, k, p, a⟩).sum))), (.v (.int .i64 ((x.create d ⟨t0, ks, lp, k, p, a⟩).ev.time))), (.fsl (((x.create d ⟨t0, ks, lp, k, p, a⟩).ev.key).map intC) false), (.v (.int .i64 ((x.create d ⟨t0, ks, lp, k, p, a⟩).ev.lp))), (.v (.int .i64 ((x.create d ⟨t0, ks, lp, k, p, a⟩).ev.kind))), (.v (.int .i64 ((x.create d ⟨t0, ks, lp, k, p, a⟩).ev.proc))), (.v (.int .i64 ((x.create d ⟨t0, ks, lp, k, p, a⟩).ev.arg))), (.fsl (((x.create d ⟨t0, ks, lp, k, p, a⟩).out).map Evt.r) false), (.fsl (((x.create d ⟨t0, ks, lp, k, p, a⟩).gone).map keyC) false), (.v (.int .i64 ((x.create d ⟨t0, ks, lp, k, p, a⟩).n))), (.v (.bool ((x.create d ⟨t0, ks, lp, k, p, a⟩).over)))]), (.fsl ((x.kid).map intC) false)]) := by
  have hk := ref03_Child_ev x.ev.key false x.n h.key
  have hs : (x.out.length + 1) * 64 ≤ 140737488355328 := by have := h.out; omega
  have hs2 : x.out.length * 64 ≤ 140737488355328 := by have := h.out; omega
  have htl : List.take x.out.length (x.out.map Evt.r) = x.out.map Evt.r := List.take_of_length_le (by simp)
  have htk : ∀ e : List AV, List.take (x.out.length + 1) (x.out.map Evt.r ++ [e]) = x.out.map Evt.r ++ [e] := fun e => List.take_of_length_le (by simp)
  unfold Ex.create Ex.kid
  rw [callZ, evL_code ext_ref20_create code_ref20_create]
  by_cases ho : w64 (x.ev.time + d) > 1152921504606846976
  · have ho' : IntKind.i64.wrap (x.ev.time + d) > 1152921504606846976 := ho
    simp only [ho, if_true]
    simp only [c_ref20_create, hk, ho', ints_lo, procs_lo, evts_lo, keys_lo, Nat.reduceLeDiff, Go.Ev.runFunc, Go.Ev.exec, Go.Ev.evOpers, Go.Ev.evOper, Go.Ev.item_op, Go.Ev.item_P, Go.Ev.evOp, Go.Ev.evs, Go.Ev.Opnd.ev, Go.Ev.Env.get, Go.Ev.Env.set, Go.Ev.look, Go.Ev.argVars, Go.Ev.cellsAt, Go.Ev.loadC, Go.Ev.AV.cells, Go.Ev.AV.uc, Go.Ev.plains, Go.Ev.AV.plain, Go.Ev.bin_add, Go.Ev.bin_gtr, Go.Ev.resVals, Go.Ev.resVal, Go.Ev.resOf, Go.Ev.kill, Go.Ev.leave, Go.Ev.storeLo, Go.Ev.lo_v, Go.Ev.lo_agg, Go.Ev.lo_tup, Go.Ev.lo_fsl, Go.Ev.awayL, Go.Ev.AV.obj?, Go.Ev.los_nil, Go.Ev.los_cons, Go.Ev.frz_lo, ↓Go.Ev.obind, ↓reduceIte, List.length_cons, List.length_nil, List.getElem?_cons_zero, List.getElem?_cons_succ, List.take_succ_cons, List.take_zero, List.take_nil, List.drop_succ_cons, List.drop_zero, List.drop_nil, List.cons_append, List.nil_append, List.append_nil, List.set_cons_zero, List.set_cons_succ, List.head?_cons, Nat.reduceAdd, Nat.reduceEqDiff, Nat.reduceBEq, Nat.reduceLeDiff, reduceCtorEq, decide_true, Bool.and_self, Bool.not_false, Bool.false_eq_true, and_self, ne_eq, not_false_eq_true, List.cons_ne_nil, Nat.zero_add, Nat.add_zero, Nat.le_refl, eq_self]
    done
  · have ho' : ¬ IntKind.i64.wrap (x.ev.time + d) > 1152921504606846976 := ho
    simp only [ho, if_false]
    have hr : ∀ e : Evt, (x.out ++ [e]).map Evt.r = x.out.map Evt.r ++ [e.r] := fun e => by rw [List.map_append]; rfl
    simp only [c_ref20_create, hk, ho', hs, hs2, htl, htk, hr, loss_app, evts_ok, Evt.r, ints_lo, procs_lo, evts_lo, keys_lo, Nat.reduceLT, Nat.reduceLeDiff, Go.Ev.runFunc, Go.Ev.exec, Go.Ev.evOpers, Go.Ev.evOper, Go.Ev.item_op, Go.Ev.item_P, Go.Ev.evOp, Go.Ev.appE, Go.Ev.evs, Go.Ev.Opnd.ev, Go.Ev.Env.get, Go.Ev.Env.set, Go.Ev.look, Go.Ev.argVars, Go.Ev.cellsAt, Go.Ev.content, Go.Ev.loadC, Go.Ev.fillR, Go.Ev.AV.cells, Go.Ev.AV.uc, Go.Ev.plains, Go.Ev.AV.plain, Go.Ev.bin_add, Go.Ev.bin_gtr, Go.Ev.resVals, Go.Ev.resVal, Go.Ev.resOf, Go.Ev.kill, Go.Ev.leave, Go.Ev.storeLo, Go.Ev.lo_v, Go.Ev.lo_agg, Go.Ev.lo_tup, Go.Ev.lo_fsl, Go.Ev.awayL, Go.Ev.AV.obj?, Go.Ev.los_nil, Go.Ev.los_cons, Go.Ev.loss_nil, Go.Ev.loss_cons, Go.Ev.okRows_nil, Go.Ev.okRows_cons, Go.Ev.frz_lo, List.replicate_one, List.replicate_zero, List.length_map, ↓Go.Ev.obind, ↓reduceIte, List.length_cons, List.length_nil, List.length_append, List.getElem?_cons_zero, List.getElem?_cons_succ, List.take_succ_cons, List.take_zero, List.take_nil, List.drop_succ_cons, List.drop_zero, List.drop_nil, List.cons_append, List.nil_append, List.append_nil, List.set_cons_zero, List.set_cons_succ, List.head?_cons, Nat.reduceAdd, Nat.reduceEqDiff, Nat.reduceBEq, Nat.reduceMul, Nat.reduceLT, Nat.reduceLeDiff, Nat.reducePow, reduceCtorEq, decide_true, decide_false, Bool.and_self, Bool.not_false, Bool.false_eq_true, and_self, ne_eq, not_false_eq_true, not_true_eq_false, List.cons_ne_nil, Nat.zero_add, Nat.add_zero, Nat.lt_add_one, Nat.le_refl, eq_self, and_false]
    done
end
end Go.Proofs.Ytdpeepljabbcfaa.K

namespace Go.Proofs.Ytdpeepljabbcfaa.K
open Go.Ev
set_option linter.unusedSimpArgs false
set_option linter.unusedVariables false
set_option maxRecDepth 10000
def Pr.inc (q : Pr) : Pr := { q with pc := w64 (q.pc + 1) }
section
variable (x : Ex) (i : Nat) (op : OpI) (q : Pr)
theorem rstep_hold (h : x.Small) (hq : x.procs[i]? = some q) (h1 : op.code = 1) :
    callZ (evL T) n_ref20_step [(.agg [(.v (.int .i64 (x.r0))), (.v (.int .i64 (x.r1))), (.fsl ((x.procs).map Pr.r) false), (.v (.int .i64 (x.sum))), (.v (.int .i64 (x.ev.time))), (.fsl ((x.ev.key).map intC) false), (.v (.int .i64 (x.ev.lp))), (.v (.int .i64 (x.ev.kind))), (.v (.int .i64 (x.ev.proc))), (.v (.int .i64 (x.ev.arg))), (.fsl ((x.out).map Evt.r) false), (.fsl ((x.gone).map keyC) false), (.v (.int .i64 (x.n))), (.v (.bool (x.over)))]), (.v (.int .i64 (i))), (.agg [(.v (.int .i64 (op.code))), (.v (.int .i64 (op.a))), (.v (.int .i64 (op.b))), (.v (.int .i64 (op.c)))])] = some (.tup [(.agg [(.v (.int .i64 (((x.create op.a ⟨0, [], x.ev.lp, 1, i, 0⟩).setP i q.inc).r0))), (.v (.int .i64 (((x.create op.a ⟨0, [], x.ev.lp, 1, i, 0⟩).setP i q.inc).r1))), (.fsl ((((x.create op.a ⟨0, [], x.ev.lp, 1, i, 0⟩).setP i q.inc).procs).map Pr.r) false), (.v (.int .i64 (((x.create op.a ⟨0, [], x.ev.lp, 1, i, 0⟩).setP i q.inc).sum))), (.v (.int .i64 (((x.create op.a ⟨0, [], x.ev.lp, 1, i, 0⟩).setP i q.inc).ev.time))), (.fsl ((((x.create op.a ⟨0, [], x.ev.lp, 1, i, 0⟩).setP i q.inc).ev.key).map intC) false), (.v (.int .i64 (((x.create op.a ⟨0, [], x.ev.lp, 1, i, 0⟩).setP i q.inc).ev.lp))), (.v (.int .i64 (((x.create op.a ⟨0, [], x.ev.lp, 1, i, 0⟩).setP i q.inc).ev.kind))), (.v (.int .i64 (((x.create op.a ⟨0, [], x.ev.lp, 1, i, 0⟩).setP i q.inc).ev.proc))), (.v (.int .i64 (((x.create op.a ⟨0, [], x.ev.lp, 1, i, 0⟩).setP i q.inc).ev.arg))), (.fsl ((((x.create op.a ⟨0, [], x.ev.lp, 1, i, 0⟩).setP i q.inc).out).map Evt.r) false), (.fsl ((((x.create op.a ⟨0, [], x.ev.lp, 1, i, 0⟩).setP i q.inc).gone).map keyC) false), (.v (.int .i64 (((x.create op.a ⟨0, [], x.ev.lp, 1, i, 0⟩).setP i q.inc).n))), (.v (.bool (((x.create op.a ⟨0, [], x.ev.lp, 1, i, 0⟩).setP i q.inc).over)))]), (.v (.bool (true)))]) := by
  have hl := (List.getElem?_eq_some_iff.1 hq).1
  have hc := ref20_create_ev x h op.a 0 x.ev.lp 1 i 0 []
  have hp := ref20_put_ev (x.create op.a ⟨0, [], x.ev.lp, 1, i, 0⟩) h.procs i hl q.inc
  simp only [List.map_nil, Pr.inc, w64] at hc hp ⊢
  rw [callZ, evL_code ext_ref20_step code_ref20_step]
  simp only [c_ref20_step, h1, hq, hc, hp, Pr.r, Int.natCast_nonneg, Int.toNat_natCast, List.getElem?_map, Option.map_some, ints_lo, procs_lo, evts_lo, keys_lo, Nat.reduceLeDiff, Go.Ev.runFunc, Go.Ev.exec, Go.Ev.evOpers, Go.Ev.evOper, Go.Ev.item_op, Go.Ev.item_P, Go.Ev.evOp, Go.Ev.evs, Go.Ev.Opnd.ev, Go.Ev.Env.get, Go.Ev.Env.set, Go.Ev.look, Go.Ev.argVars, Go.Ev.cellsAt, Go.Ev.loadC, Go.Ev.fillP, Go.Ev.AV.cells, Go.Ev.AV.uc, Go.Ev.plains, Go.Ev.AV.plain, Go.Ev.bin_add, Go.Ev.bin_eql, Go.Ev.resVals, Go.Ev.resVal, Go.Ev.resOf, Go.Ev.kill, Go.Ev.leave, Go.Ev.storeLo, Go.Ev.lo_v, Go.Ev.lo_agg, Go.Ev.lo_tup, Go.Ev.lo_fsl, Go.Ev.los_nil, Go.Ev.los_cons, Go.Ev.loss_nil, Go.Ev.frz_lo, ↓Go.Ev.obind, ↓reduceIte, List.length_cons, List.length_nil, List.getElem?_cons_zero, List.getElem?_cons_succ, List.take_succ_cons, List.take_zero, List.take_nil, List.drop_succ_cons, List.drop_zero, List.drop_nil, List.cons_append, List.nil_append, List.append_nil, List.set_cons_zero, List.set_cons_succ, List.head?_cons, Nat.reduceAdd, Nat.reduceEqDiff, Nat.reduceLeDiff, reduceCtorEq, decide_true, Bool.and_self, Bool.false_eq_true, and_self, ne_eq, not_false_eq_true, List.cons_ne_nil, Nat.zero_add, Nat.add_zero, Nat.le_refl, eq_self]
theorem rstep_send (h : x.Small) (hq : x.procs[i]? = some q) (h1 : op.code = 2) :
    callZ (evL T) n_ref20_step [(.agg [(.v (.int .i64 (x.r0))), (.v (.int .i64 (x.r1))), (.fsl ((x.procs).map Pr.r) false), (.v (.int .i64 (x.sum))), (.v (.int .i64 (x.ev.time))), (.fsl ((x.ev.key).map intC) false), (.v (.int .i64 (x.ev.lp))), (.v (.int .i64 (x.ev.kind))), (.v (.int .i64 (x.ev.proc))), (.v (.int .i64 (x.ev.arg))), (.fsl ((x.out).map Evt.r) false), (.fsl ((x.gone).map keyC) false), (.v (.int .i64 (x.n))), (.v (.bool (x.over)))]), (.v (.int .i64 (i))), (.agg [(.v (.int .i64 (op.code))), (.v (.int .i64 (op.a))), (.v (.int .i64 (op.b))), (.v (.int .i64 (op.c)))])] = some (.tup [(.agg [(.v (.int .i64 (((x.create op.c ⟨0, [], op.a, 3, 0, op.b⟩).setP i q.inc).r0))), (.v (.int .i64 (((x.create op.c ⟨0, [], op.a, 3, 0, op.b⟩).setP i q.inc).r1))), (.fsl ((((x.create op.c ⟨0, [], op.a, 3, 0, op.b⟩).setP i q.inc).procs).map Pr.r) false), (.v (.int .i64 (((x.create op.c ⟨0, [], op.a, 3, 0, op.b⟩).setP i q.inc).sum))), (.v (.int .i64 (((x.create op.c ⟨0, [], op.a, 3, 0, op.b⟩).setP i q.inc).ev.time))), (.fsl ((((x.create op.c ⟨0, [], op.a, 3, 0, op.b⟩).setP i q.inc).ev.key).map intC) false), (.v (.int .i64 (((x.create op.c ⟨0, [], op.a, 3, 0, op.b⟩).setP i q.inc).ev.lp))), (.v (.int .i64 (((x.create op.c ⟨0, [], op.a, 3, 0, op.b⟩).setP i q.inc).ev.kind))), (.v (.int .i64 (((x.create op.c ⟨0, [], op.a, 3, 0, op.b⟩).setP i q.inc).ev.proc))), (.v (.int .i64 (((x.create op.c ⟨0, [], op.a, 3, 0, op.b⟩).setP i q.inc).ev.arg))), (.fsl ((((x.create op.c ⟨0, [], op.a, 3, 0, op.b⟩).setP i q.inc).out).map Evt.r) false), (.fsl ((((x.create op.c ⟨0, [], op.a, 3, 0, op.b⟩).setP i q.inc).gone).map keyC) false), (.v (.int .i64 (((x.create op.c ⟨0, [], op.a, 3, 0, op.b⟩).setP i q.inc).n))), (.v (.bool (((x.create op.c ⟨0, [], op.a, 3, 0, op.b⟩).setP i q.inc).over)))]), (.v (.bool (false)))]) := by
  have hl := (List.getElem?_eq_some_iff.1 hq).1
  have hc := ref20_create_ev x h op.c 0 op.a 3 0 op.b []
  have hp := ref20_put_ev (x.create op.c ⟨0, [], op.a, 3, 0, op.b⟩) h.procs i hl q.inc
  simp only [List.map_nil, Pr.inc, w64] at hc hp ⊢
  have k1 : ¬ (2 : Int) = 1 := by decide
  rw [callZ, evL_code ext_ref20_step code_ref20_step]
  simp only [c_ref20_step, h1, k1, hq, hc, hp, Pr.r, Int.natCast_nonneg, Int.toNat_natCast, List.getElem?_map, Option.map_some, ints_lo, procs_lo, evts_lo, keys_lo, Nat.reduceLeDiff, Go.Ev.runFunc, Go.Ev.exec, Go.Ev.evOpers, Go.Ev.evOper, Go.Ev.item_op, Go.Ev.item_P, Go.Ev.evOp, Go.Ev.evs, Go.Ev.Opnd.ev, Go.Ev.Env.get, Go.Ev.Env.set, Go.Ev.look, Go.Ev.argVars, Go.Ev.cellsAt, Go.Ev.loadC, Go.Ev.fillP, Go.Ev.AV.cells, Go.Ev.AV.uc, Go.Ev.plains, Go.Ev.AV.plain, Go.Ev.bin_add, Go.Ev.bin_eql, Go.Ev.resVals, Go.Ev.resVal, Go.Ev.resOf, Go.Ev.kill, Go.Ev.leave, Go.Ev.storeLo, Go.Ev.lo_v, Go.Ev.lo_agg, Go.Ev.lo_tup, Go.Ev.lo_fsl, Go.Ev.los_nil, Go.Ev.los_cons, Go.Ev.loss_nil, Go.Ev.frz_lo, ↓Go.Ev.obind, ↓reduceIte, List.length_cons, List.length_nil, List.getElem?_cons_zero, List.getElem?_cons_succ, List.take_succ_cons, List.take_zero, List.take_nil, List.drop_succ_cons, List.drop_zero, List.drop_nil, List.cons_append, List.nil_append, List.append_nil, List.set_cons_zero, List.set_cons_succ, List.head?_cons, Nat.reduceAdd, Nat.reduceEqDiff, Nat.reduceLeDiff, reduceCtorEq, decide_true, decide_false, Bool.and_self, Bool.false_eq_true, and_self, ne_eq, not_false_eq_true, List.cons_ne_nil, Nat.zero_add, Nat.add_zero, Nat.le_refl, eq_self]
theorem rstep_timer (h : x.Small) (hg : x.gone.length < 1000) (hq : x.procs[i]? = some q) (h1 : op.code = 3) :
    callZ (evL T) n_ref20_step [(.agg [(.v (.int .i64 (x.r0))), (.v (.int .i64 (x.r1))), (.fsl ((x.procs).map Pr.r) false), (.v (.int .i64 (x.sum))), (.v (.int .i64 (x.ev.time))), (.fsl ((x.ev.key).map intC) false), (.v (.int .i64 (x.ev.lp))), (.v (.int .i64 (x.ev.kind))), (.v (.int .i64 (x.ev.proc))), (.v (.int .i64 (x.ev.arg))), (.fsl ((x.out).map Evt.r) false), (.fsl ((x.gone).map keyC) false), (.v (.int .i64 (x.n))), (.v (.bool (x.over)))]), (.v (.int .i64 (i))), (.agg [(.v (.int .i64 (op.code))), (.v (.int .i64 (op.a))), (.v (.int .i64 (op.b))), (.v (.int .i64 (op.c)))])] = some (.tup [(.agg [(.v (.int .i64 (((({ x with gone := if 0 < q.timer.length then x.gone ++ [q.timer] else x.gone } : Ex).create op.a ⟨0, [], x.ev.lp, 2, i, op.b⟩).setP i { q.inc with timer := x.kid }).r0))), (.v (.int .i64 (((({ x with gone := if 0 < q.timer.length then x.gone ++ [q.timer] else x.gone } : Ex).create op.a ⟨0, [], x.ev.lp, 2, i, op.b⟩).setP i { q.inc with timer := x.kid }).r1))), (.fsl ((((({ x with gone := if 0 < q.timer.length then x.gone ++ [q.timer] else x.gone } : Ex).create op.a ⟨0, [], x.ev.lp, 2, i, op.b⟩).setP i { q.inc with timer := x.kid }).procs).map Pr.r) false), (.v (.int .i64 (((({ x with gone := if 0 < q.timer.length then x.gone ++ [q.timer] else x.gone } : Ex).create op.a ⟨0, [], x.ev.lp, 2, i, op.b⟩).setP i { q.inc with timer := x.kid }).sum))), (.v (.int .i64 (((({ x with gone := if 0 < q.timer.length then x.gone ++ [q.timer] else x.gone } : Ex).create op.a ⟨0, [], x.ev.lp, 2, i, op.b⟩).setP i { q.inc with timer := x.kid }).ev.time))), (.fsl ((((({ x with gone := if 0 < q.timer.length then x.gone ++ [q.timer] else x.gone } : Ex).create op.a ⟨0, [], x.ev.lp, 2, i, op.b⟩).setP i { q.inc with timer := x.kid }).ev.key).map intC) false), (.v (.int .i64 (((({ x with gone := if 0 < q.timer.length then x.gone ++ [q.timer] else x.gone } : Ex).create op.a ⟨0, [], x.ev.lp, 2, i, op.b⟩).setP i { q.inc with timer := x.kid }).ev.lp))), (.v (.int .i64 (((({ x with gone := if 0 < q.timer.length then x.gone ++ [q.timer] else x.gone } : Ex).create op.a ⟨0, [], x.ev.lp, 2, i, op.b⟩).setP i { q.inc with timer := x.kid }).ev.kind))), (.v (.int .i64 (((({ x with gone := if 0 < q.timer.length then x.gone ++ [q.timer] else x.gone } : Ex).create op.a ⟨0, [], x.ev.lp, 2, i, op.b⟩).setP i { q.inc with timer := x.kid }).ev.proc))), (.v (.int .i64 (((({ x with gone := if 0 < q.timer.length then x.gone ++ [q.timer] else x.gone } : Ex).create op.a ⟨0, [], x.ev.lp, 2, i, op.b⟩).setP i { q.inc with timer := x.kid }).ev.arg))), (.fsl ((((({ x with gone := if 0 < q.timer.length then x.gone ++ [q.timer] else x.gone } : Ex).create op.a ⟨0, [], x.ev.lp, 2, i, op.b⟩).setP i { q.inc with timer := x.kid }).out).map Evt.r) false), (.fsl ((((({ x with gone := if 0 < q.timer.length then x.gone ++ [q.timer] else x.gone } : Ex).create op.a ⟨0, [], x.ev.lp, 2, i, op.b⟩).setP i { q.inc with timer := x.kid }).gone).map keyC) false), (.v (.int .i64 (((({ x with gone := if 0 < q.timer.length then x.gone ++ [q.timer] else x.gone } : Ex).create op.a ⟨0, [], x.ev.lp, 2, i, op.b⟩).setP i { q.inc with timer := x.kid }).n))), (.v (.bool (((({ x with gone := if 0 < q.timer.length then x.gone ++ [q.timer] else x.gone } : Ex).create op.a ⟨0, [], x.ev.lp, 2, i, op.b⟩).setP i { q.inc with timer := x.kid }).over)))]), (.v (.bool (false)))]) := by
  have hl := (List.getElem?_eq_some_iff.1 hq).1
  have k1 : ¬ (3 : Int) = 1 := by decide
  have k2 : ¬ (3 : Int) = 2 := by decide
  have ha := ref20_cancelled_ev x.gone q.timer false h.gone
  by_cases ht : 0 < q.timer.length
  · have ht' : (q.timer.length : Int) > 0 := by omega
    have hc := ref20_create_ev { x with gone := x.gone ++ [q.timer] } ⟨h.procs, h.out, by simp; omega, h.key⟩ op.a 0 x.ev.lp 2 i op.b []
    have hp := ref20_put_ev (({ x with gone := x.gone ++ [q.timer] } : Ex).create op.a ⟨0, [], x.ev.lp, 2, i, op.b⟩) h.procs i hl { q.inc with timer := x.kid }
    rw [if_pos ht]
    simp only [List.map_nil, Pr.inc, Ex.kid, w64] at hc hp ⊢
    rw [callZ, evL_code ext_ref20_step code_ref20_step]
    simp only [c_ref20_step, h1, k1, k2, ht', hq, hc, hp, ha, Pr.r, Int.natCast_nonneg, Int.toNat_natCast, List.getElem?_map, Option.map_some, ints_lo, procs_lo, evts_lo, keys_lo, Nat.reduceLeDiff, Go.Ev.runFunc, Go.Ev.exec, Go.Ev.evOpers, Go.Ev.evOper, Go.Ev.item_op, Go.Ev.item_P, Go.Ev.evOp, Go.Ev.evs, Go.Ev.Opnd.ev, Go.Ev.Env.get, Go.Ev.Env.set, Go.Ev.look, Go.Ev.argVars, Go.Ev.cellsAt, Go.Ev.loadC, Go.Ev.fillP, Go.Ev.AV.cells, Go.Ev.AV.uc, Go.Ev.plains, Go.Ev.AV.plain, Go.Ev.bin_add, Go.Ev.bin_eql, Go.Ev.bin_gtr, Go.Ev.resVals, Go.Ev.resVal, Go.Ev.resOf, Go.Ev.kill, Go.Ev.leave, Go.Ev.storeLo, Go.Ev.lo_v, Go.Ev.lo_agg, Go.Ev.lo_tup, Go.Ev.lo_fsl, Go.Ev.los_nil, Go.Ev.los_cons, Go.Ev.loss_nil, Go.Ev.frz_lo, List.length_map, ↓Go.Ev.obind, ↓reduceIte, List.length_cons, List.length_nil, List.getElem?_cons_zero, List.getElem?_cons_succ, List.take_succ_cons, List.take_zero, List.take_nil, List.drop_succ_cons, List.drop_zero, List.drop_nil, List.cons_append, List.nil_append, List.append_nil, List.set_cons_zero, List.set_cons_succ, List.head?_cons, Nat.reduceAdd, Nat.reduceEqDiff, Nat.reduceLeDiff, reduceCtorEq, decide_true, decide_false, Bool.and_self, Bool.false_eq_true, and_self, ne_eq, not_false_eq_true, List.cons_ne_nil, Nat.zero_add, Nat.add_zero, Nat.le_refl, eq_self]
  · have ht' : ¬ (q.timer.length : Int) > 0 := by omega
    have hc := ref20_create_ev x h op.a 0 x.ev.lp 2 i op.b []
    have hp := ref20_put_ev (x.create op.a ⟨0, [], x.ev.lp, 2, i, op.b⟩) h.procs i hl { q.inc with timer := x.kid }
    rw [if_neg ht]
    simp only [List.map_nil, Pr.inc, Ex.kid, w64] at hc hp ⊢
    rw [callZ, evL_code ext_ref20_step code_ref20_step]
    simp only [c_ref20_step, h1, k1, k2, ht', hq, hc, hp, Pr.r, Int.natCast_nonneg, Int.toNat_natCast, List.getElem?_map, Option.map_some, ints_lo, procs_lo, evts_lo, keys_lo, Nat.reduceLeDiff, Go.Ev.runFunc, Go.Ev.exec, Go.Ev.evOpers, Go.Ev.evOper, Go.Ev.item_op, Go.Ev.item_P, Go.Ev.evOp, Go.Ev.evs, Go.Ev.Opnd.ev, Go.Ev.Env.get, Go.Ev.Env.set, Go.Ev.look, Go.Ev.argVars, Go.Ev.cellsAt, Go.Ev.loadC, Go.Ev.fillP, Go.Ev.AV.cells, Go.Ev.AV.uc, Go.Ev.plains, Go.Ev.AV.plain, Go.Ev.bin_add, Go.Ev.bin_eql, Go.Ev.bin_gtr, Go.Ev.resVals, Go.Ev.resVal, Go.Ev.resOf, Go.Ev.kill, Go.Ev.leave, Go.Ev.storeLo, Go.Ev.lo_v, Go.Ev.lo_agg, Go.Ev.lo_tup, Go.Ev.lo_fsl, Go.Ev.los_nil, Go.Ev.los_cons, Go.Ev.loss_nil, Go.Ev.frz_lo, List.length_map, ↓Go.Ev.obind, ↓reduceIte, List.length_cons, List.length_nil, List.getElem?_cons_zero, List.getElem?_cons_succ, List.take_succ_cons, List.take_zero, List.take_nil, List.drop_succ_cons, List.drop_zero, List.drop_nil, List.cons_append, List.nil_append, List.append_nil, List.set_cons_zero, List.set_cons_succ, List.head?_cons, Nat.reduceAdd, Nat.reduceEqDiff, Nat.reduceLeDiff, reduceCtorEq, decide_true, decide_false, Bool.and_self, Bool.false_eq_true, and_self, ne_eq, not_false_eq_true, List.cons_ne_nil, Nat.zero_add, Nat.add_zero, Nat.le_refl, eq_self]
theorem rstep_stop (h : x.Small) (hg : x.gone.length < 1000) (hq : x.procs[i]? = some q) (h1 : op.code = 4) :
    callZ (evL T) n_ref20_step [(.agg [(.v (.int .i64 (x.r0))), (.v (.int .i64 (x.r1))), (.fsl ((x.procs).map Pr.r) false), (.v (.int .i64 (x.sum))), (.v (.int .i64 (x.ev.time))), (.fsl ((x.ev.key).map intC) false), (.v (.int .i64 (x.ev.lp))), (.v (.int .i64 (x.ev.kind))), (.v (.int .i64 (x.ev.proc))), (.v (.int .i64 (x.ev.arg))), (.fsl ((x.out).map Evt.r) false), (.fsl ((x.gone).map keyC) false), (.v (.int .i64 (x.n))), (.v (.bool (x.over)))]), (.v (.int .i64 (i))), (.agg [(.v (.int .i64 (op.code))), (.v (.int .i64 (op.a))), (.v (.int .i64 (op.b))), (.v (.int .i64 (op.c)))])] = some (.tup [(.agg [(.v (.int .i64 ((if 0 < q.timer.length then ({ x with gone := x.gone ++ [q.timer] } : Ex).setP i { q.inc with timer := [] } else x.setP i q.inc).r0))), (.v (.int .i64 ((if 0 < q.timer.length then ({ x with gone := x.gone ++ [q.timer] } : Ex).setP i { q.inc with timer := [] } else x.setP i q.inc).r1))), (.fsl (((if 0 < q.timer.length then ({ x with gone := x.gone ++ [q.timer] } : Ex).setP i { q.inc with timer := [] } else x.setP i q.inc).procs).map Pr.r) false), (.v (.int .i64 ((if 0 < q.timer.length then ({ x with gone := x.gone ++ [q.timer] } : Ex).setP i { q.inc with timer := [] } else x.setP i q.inc).sum))), (.v (.int .i64 ((if 0 < q.timer.length then ({ x with gone := x.gone ++ [q.timer] } : Ex).setP i { q.inc with timer := [] } else x.setP i q.inc).ev.time))), (.fsl (((if 0 < q.timer.length then ({ x with gone := x.gone ++ [q.timer] } : Ex).setP i { q.inc with timer := [] } else x.setP i q.inc).ev.key).map intC) false), (.v (.int .i64 ((if 0 < q.timer.length then ({ x with gone := x.gone ++ [q.timer] } : Ex).setP i { q.inc with timer := [] } else x.setP i q.inc).ev.lp))), (.v (.int .i64 ((if 0 < q.timer.length then ({ x with gone := x.gone ++ [q.timer] } : Ex).setP i { q.inc with timer := [] } else x.setP i q.inc).ev.kind))), (.v (.int .i64 ((if 0 < q.timer.length then ({ x with gone := x.gone ++ [q.timer] } : Ex).setP i { q.inc with timer := [] } else x.setP i q.inc).ev.proc))), (.v (.int .i64 ((if 0 < q.timer.length then ({ x with gone := x.gone ++ [q.timer] } : Ex).setP i { q.inc with timer := [] } else x.setP i q.inc).ev.arg))), (.fsl (((if 0 < q.timer.length then ({ x with gone := x.gone ++ [q.timer] } : Ex).setP i { q.inc with timer := [] } else x.setP i q.inc).out).map Evt.r) false), (.fsl (((if 0 < q.timer.length then ({ x with gone := x.gone ++ [q.timer] } : Ex).setP i { q.inc with timer := [] } else x.setP i q.inc).gone).map keyC) false), (.v (.int .i64 ((if 0 < q.timer.length then ({ x with gone := x.gone ++ [q.timer] } : Ex).setP i { q.inc with timer := [] } else x.setP i q.inc).n))), (.v (.bool ((if 0 < q.timer.length then ({ x with gone := x.gone ++ [q.timer] } : Ex).setP i { q.inc with timer := [] } else x.setP i q.inc).over)))]), (.v (.bool (false)))]) := by
  have hl := (List.getElem?_eq_some_iff.1 hq).1
  have k1 : ¬ (4 : Int) = 1 := by decide
  have k2 : ¬ (4 : Int) = 2 := by decide
  have k3 : ¬ (4 : Int) = 3 := by decide
  have ha := ref20_cancelled_ev x.gone q.timer false h.gone
  by_cases ht : 0 < q.timer.length
  · have ht' : (q.timer.length : Int) > 0 := by omega
    have hp := ref20_put_ev { x with gone := x.gone ++ [q.timer] } h.procs i hl { q.inc with timer := [] }
    rw [if_pos ht]
    simp only [List.map_nil, Pr.inc, w64] at hp ⊢
    rw [callZ, evL_code ext_ref20_step code_ref20_step]
    simp only [c_ref20_step, h1, k1, k2, k3, ht', hq, hp, ha, Pr.r, Int.natCast_nonneg, Int.toNat_natCast, List.getElem?_map, Option.map_some, ints_lo, procs_lo, evts_lo, keys_lo, Nat.reduceLeDiff, Go.Ev.runFunc, Go.Ev.exec, Go.Ev.evOpers, Go.Ev.evOper, Go.Ev.item_op, Go.Ev.item_P, Go.Ev.evOp, Go.Ev.evs, Go.Ev.Opnd.ev, Go.Ev.Env.get, Go.Ev.Env.set, Go.Ev.look, Go.Ev.argVars, Go.Ev.cellsAt, Go.Ev.loadC, Go.Ev.AV.cells, Go.Ev.AV.uc, Go.Ev.plains, Go.Ev.AV.plain, Go.Ev.bin_add, Go.Ev.bin_eql, Go.Ev.bin_gtr, Go.Ev.resVals, Go.Ev.resVal, Go.Ev.resOf, Go.Ev.kill, Go.Ev.leave, Go.Ev.storeLo, Go.Ev.lo_v, Go.Ev.lo_agg, Go.Ev.lo_tup, Go.Ev.lo_fsl, Go.Ev.los_nil, Go.Ev.los_cons, Go.Ev.loss_nil, Go.Ev.frz_lo, List.length_map, ↓Go.Ev.obind, ↓reduceIte, List.length_cons, List.length_nil, List.getElem?_cons_zero, List.getElem?_cons_succ, List.take_succ_cons, List.take_zero, List.take_nil, List.drop_succ_cons, List.drop_zero, List.drop_nil, List.cons_append, List.nil_append, List.append_nil, List.set_cons_zero, List.set_cons_succ, List.head?_cons, Nat.reduceAdd, Nat.reduceEqDiff, Nat.reduceLeDiff, reduceCtorEq, decide_true, decide_false, Bool.and_self, Bool.false_eq_true, and_self, ne_eq, not_false_eq_true, List.cons_ne_nil, Nat.zero_add, Nat.add_zero, Nat.le_refl, eq_self]
  · have ht' : ¬ (q.timer.length : Int) > 0 := by omega
    have hp := ref20_put_ev x h.procs i hl q.inc
    rw [if_neg ht]
    simp only [Pr.inc, w64] at hp ⊢
    rw [callZ, evL_code ext_ref20_step code_ref20_step]
    simp only [c_ref20_step, h1, k1, k2, k3, ht', hq, hp, Pr.r, Int.natCast_nonneg, Int.toNat_natCast, List.getElem?_map, Option.map_some, ints_lo, procs_lo, evts_lo, keys_lo, Nat.reduceLeDiff, Go.Ev.runFunc, Go.Ev.exec, Go.Ev.evOpers, Go.Ev.evOper, Go.Ev.item_op, Go.Ev.item_P, Go.Ev.evOp, Go.Ev.evs, Go.Ev.Opnd.ev, Go.Ev.Env.get, Go.Ev.Env.set, Go.Ev.look, Go.Ev.argVars, Go.Ev.cellsAt, Go.Ev.loadC, Go.Ev.AV.cells, Go.Ev.AV.uc, Go.Ev.plains, Go.Ev.AV.plain, Go.Ev.bin_add, Go.Ev.bin_eql, Go.Ev.bin_gtr, Go.Ev.resVals, Go.Ev.resVal, Go.Ev.resOf, Go.Ev.kill, Go.Ev.leave, Go.Ev.storeLo, Go.Ev.lo_v, Go.Ev.lo_agg, Go.Ev.lo_tup, Go.Ev.lo_fsl, Go.Ev.los_nil, Go.Ev.los_cons, Go.Ev.frz_lo, List.length_map, ↓Go.Ev.obind, ↓reduceIte, List.length_cons, List.length_nil, List.getElem?_cons_zero, List.getElem?_cons_succ, List.take_succ_cons, List.take_zero, List.take_nil, List.drop_succ_cons, List.drop_zero, List.drop_nil, List.cons_append, List.nil_append, List.append_nil, List.set_cons_zero, List.set_cons_succ, List.head?_cons, Nat.reduceAdd, Nat.reduceEqDiff, Nat.reduceLeDiff, reduceCtorEq, decide_true, decide_false, Bool.and_self, Bool.false_eq_true, and_self, ne_eq, not_false_eq_true, List.cons_ne_nil, Nat.zero_add, Nat.add_zero, Nat.le_refl, eq_self]
theorem rstep_spawn (h : x.Small) (hq : x.procs[i]? = some q) (h1 : op.code = 5) :
    callZ (evL T) n_ref20_step [(.agg [(.v (.int .i64 (x.r0))), (.v (.int .i64 (x.r1))), (.fsl ((x.procs).map Pr.r) false), (.v (.int .i64 (x.sum))), (.v (.int .i64 (x.ev.time))), (.fsl ((x.ev.key).map intC) false), (.v (.int .i64 (x.ev.lp))), (.v (.int .i64 (x.ev.kind))), (.v (.int .i64 (x.ev.proc))), (.v (.int .i64 (x.ev.arg))), (.fsl ((x.out).map Evt.r) false), (.fsl ((x.gone).map keyC) false), (.v (.int .i64 (x.n))), (.v (.bool (x.over)))]), (.v (.int .i64 (i))), (.agg [(.v (.int .i64 (op.code))), (.v (.int .i64 (op.a))), (.v (.int .i64 (op.b))), (.v (.int .i64 (op.c)))])] = some (.tup [(.agg [(.v (.int .i64 (((x.setP i q.inc).spawnE op).r0))), (.v (.int .i64 (((x.setP i q.inc).spawnE op).r1))), (.fsl ((((x.setP i q.inc).spawnE op).procs).map Pr.r) false), (.v (.int .i64 (((x.setP i q.inc).spawnE op).sum))), (.v (.int .i64 (((x.setP i q.inc).spawnE op).ev.time))), (.fsl ((((x.setP i q.inc).spawnE op).ev.key).map intC) false), (.v (.int .i64 (((x.setP i q.inc).spawnE op).ev.lp))), (.v (.int .i64 (((x.setP i q.inc).spawnE op).ev.kind))), (.v (.int .i64 (((x.setP i q.inc).spawnE op).ev.proc))), (.v (.int .i64 (((x.setP i q.inc).spawnE op).ev.arg))), (.fsl ((((x.setP i q.inc).spawnE op).out).map Evt.r) false), (.fsl ((((x.setP i q.inc).spawnE op).gone).map keyC) false), (.v (.int .i64 (((x.setP i q.inc).spawnE op).n))), (.v (.bool (((x.setP i q.inc).spawnE op).over)))]), (.v (.bool (false)))]) := by
  have hl := (List.getElem?_eq_some_iff.1 hq).1
  have k1 : ¬ (5 : Int) = 1 := by decide
  have k2 : ¬ (5 : Int) = 2 := by decide
  have k3 : ¬ (5 : Int) = 3 := by decide
  have k4 : ¬ (5 : Int) = 4 := by decide
  have hp := ref20_put_ev x h.procs i hl q.inc
  have hls : (x.procs.set i q.inc).length = x.procs.length := by simp
  unfold Ex.spawnE
  by_cases hs : x.procs.length < 8
  · have hs' : ¬ (x.procs.length : Int) ≥ 8 := by omega
    have h2 : x.procs.length * 48 ≤ 140737488355328 := by omega
    have h3 : (x.procs.length + 1) * 48 ≤ 140737488355328 := by omega
    rw [if_pos (by simp only [Ex.setP, hls]; exact hs)]
    have hc := ref20_create_ev { x with procs := x.procs.set i q.inc ++ [⟨op.a, 0, true, []⟩] } ⟨by simp; omega, h.out, h.gone, h.key⟩ op.b 0 x.ev.lp 1 x.procs.length 0 []
    have htk : ∀ e : List AV, List.take (x.procs.length + 1) ((x.procs.set i q.inc).map Pr.r ++ [e]) = (x.procs.set i q.inc).map Pr.r ++ [e] := fun e => List.take_of_length_le (by simp)
    have htl : List.take x.procs.length ((x.procs.set i q.inc).map Pr.r) = (x.procs.set i q.inc).map Pr.r := List.take_of_length_le (by simp)
    simp only [Ex.setP, Ex.ownE, hls] at hp ⊢
    generalize x.procs.set i q.inc = l at *
    simp only [List.map_nil, List.map_append, List.map_cons, Pr.inc, Pr.r, w64] at hc hp ⊢
    rw [callZ, evL_code ext_ref20_step code_ref20_step]
    simp only [c_ref20_step, h1, k1, k2, k3, k4, h2, h3, hs', hls, hq, hc, hp, htl, htk, procs_ok, Pr.r, loss_app, Int.natCast_nonneg, Int.toNat_natCast, List.getElem?_map, Option.map_some, ints_lo, procs_lo, evts_lo, keys_lo, Nat.reduceLT, Nat.reduceLeDiff, Go.Ev.runFunc, Go.Ev.exec, Go.Ev.evOpers, Go.Ev.evOper, Go.Ev.item_op, Go.Ev.item_P, Go.Ev.evOp, Go.Ev.appE, Go.Ev.evs, Go.Ev.Opnd.ev, Go.Ev.Env.get, Go.Ev.Env.set, Go.Ev.look, Go.Ev.argVars, Go.Ev.cellsAt, Go.Ev.content, Go.Ev.loadC, Go.Ev.fillP, Go.Ev.fillR, Go.Ev.AV.cells, Go.Ev.AV.uc, Go.Ev.plains, Go.Ev.AV.plain, Go.Ev.bin_add, Go.Ev.bin_eql, Go.Ev.bin_geq, Go.Ev.resVals, Go.Ev.resVal, Go.Ev.resOf, Go.Ev.kill, Go.Ev.leave, Go.Ev.storeLo, Go.Ev.lo_v, Go.Ev.lo_agg, Go.Ev.lo_tup, Go.Ev.lo_fsl, Go.Ev.los_nil, Go.Ev.los_cons, Go.Ev.loss_nil, Go.Ev.loss_cons, Go.Ev.okRows_nil, Go.Ev.okRows_cons, Go.Ev.frz_lo, List.replicate_one, List.replicate_zero, List.length_map, ↓Go.Ev.obind, ↓reduceIte, List.length_cons, List.length_nil, List.length_append, List.getElem?_cons_zero, List.getElem?_cons_succ, List.take_succ_cons, List.take_zero, List.take_nil, List.drop_succ_cons, List.drop_zero, List.drop_nil, List.cons_append, List.nil_append, List.append_nil, List.set_cons_zero, List.set_cons_succ, List.head?_cons, Nat.reduceAdd, Nat.reduceEqDiff, Nat.reduceMul, Nat.reduceLT, Nat.reduceLeDiff, Nat.reducePow, reduceCtorEq, decide_true, decide_false, Bool.and_self, Bool.false_eq_true, and_self, ne_eq, not_false_eq_true, not_true_eq_false, List.cons_ne_nil, Nat.zero_add, Nat.add_zero, Nat.lt_add_one, Nat.le_refl, eq_self, and_false]
  · have hs' : (x.procs.length : Int) ≥ 8 := by omega
    rw [if_neg (by simp only [Ex.setP, hls]; exact hs)]
    simp only [Ex.setP] at hp ⊢
    generalize x.procs.set i q.inc = l at *
    simp only [Pr.inc, w64] at hp ⊢
    rw [callZ, evL_code ext_ref20_step code_ref20_step]
    simp only [c_ref20_step, h1, k1, k2, k3, k4, hs', hls, hq, hp, Pr.r, Int.natCast_nonneg, Int.toNat_natCast, List.getElem?_map, Option.map_some, ints_lo, procs_lo, evts_lo, keys_lo, Nat.reduceLeDiff, Go.Ev.runFunc, Go.Ev.exec, Go.Ev.evOpers, Go.Ev.evOper, Go.Ev.item_op, Go.Ev.item_P, Go.Ev.evOp, Go.Ev.evs, Go.Ev.Opnd.ev, Go.Ev.Env.get, Go.Ev.Env.set, Go.Ev.look, Go.Ev.argVars, Go.Ev.cellsAt, Go.Ev.loadC, Go.Ev.AV.cells, Go.Ev.AV.uc, Go.Ev.plains, Go.Ev.AV.plain, Go.Ev.bin_add, Go.Ev.bin_eql, Go.Ev.bin_geq, Go.Ev.resVals, Go.Ev.resVal, Go.Ev.resOf, Go.Ev.kill, Go.Ev.leave, Go.Ev.storeLo, Go.Ev.lo_v, Go.Ev.lo_agg, Go.Ev.lo_tup, Go.Ev.lo_fsl, Go.Ev.los_nil, Go.Ev.los_cons, Go.Ev.frz_lo, List.length_map, ↓Go.Ev.obind, ↓reduceIte, List.length_cons, List.length_nil, List.getElem?_cons_zero, List.getElem?_cons_succ, List.take_succ_cons, List.take_zero, List.take_nil, List.drop_succ_cons, List.drop_zero, List.drop_nil, List.cons_append, List.nil_append, List.append_nil, List.set_cons_zero, List.set_cons_succ, List.head?_cons, Nat.reduceAdd, Nat.reduceEqDiff, Nat.reduceLeDiff, reduceCtorEq, decide_true, decide_false, Bool.and_self, Bool.false_eq_true, and_self, ne_eq, not_false_eq_true, List.cons_ne_nil, Nat.zero_add, Nat.add_zero, Nat.le_refl, eq_self]
theorem rstep_add (h : x.Small) (hq : x.procs[i]? = some q) (h1 : op.code = 6) (h0 : op.a = 0 ∨ op.a = 1) :
    callZ (evL T) n_ref20_step [(.agg [(.v (.int .i64 (x.r0))), (.v (.int .i64 (x.r1))), (.fsl ((x.procs).map Pr.r) false), (.v (.int .i64 (x.sum))), (.v (.int .i64 (x.ev.time))), (.fsl ((x.ev.key).map intC) false), (.v (.int .i64 (x.ev.lp))), (.v (.int .i64 (x.ev.kind))), (.v (.int .i64 (x.ev.proc))), (.v (.int .i64 (x.ev.arg))), (.fsl ((x.out).map Evt.r) false), (.fsl ((x.gone).map keyC) false), (.v (.int .i64 (x.n))), (.v (.bool (x.over)))]), (.v (.int .i64 (i))), (.agg [(.v (.int .i64 (op.code))), (.v (.int .i64 (op.a))), (.v (.int .i64 (op.b))), (.v (.int .i64 (op.c)))])] = some (.tup [(.agg [(.v (.int .i64 (((x.setReg op.a (w64 (x.reg op.a + op.b))).setP i q.inc).r0))), (.v (.int .i64 (((x.setReg op.a (w64 (x.reg op.a + op.b))).setP i q.inc).r1))), (.fsl ((((x.setReg op.a (w64 (x.reg op.a + op.b))).setP i q.inc).procs).map Pr.r) false), (.v (.int .i64 (((x.setReg op.a (w64 (x.reg op.a + op.b))).setP i q.inc).sum))), (.v (.int .i64 (((x.setReg op.a (w64 (x.reg op.a + op.b))).setP i q.inc).ev.time))), (.fsl ((((x.setReg op.a (w64 (x.reg op.a + op.b))).setP i q.inc).ev.key).map intC) false), (.v (.int .i64 (((x.setReg op.a (w64 (x.reg op.a + op.b))).setP i q.inc).ev.lp))), (.v (.int .i64 (((x.setReg op.a (w64 (x.reg op.a + op.b))).setP i q.inc).ev.kind))), (.v (.int .i64 (((x.setReg op.a (w64 (x.reg op.a + op.b))).setP i q.inc).ev.proc))), (.v (.int .i64 (((x.setReg op.a (w64 (x.reg op.a + op.b))).setP i q.inc).ev.arg))), (.fsl ((((x.setReg op.a (w64 (x.reg op.a + op.b))).setP i q.inc).out).map Evt.r) false), (.fsl ((((x.setReg op.a (w64 (x.reg op.a + op.b))).setP i q.inc).gone).map keyC) false), (.v (.int .i64 (((x.setReg op.a (w64 (x.reg op.a + op.b))).setP i q.inc).n))), (.v (.bool (((x.setReg op.a (w64 (x.reg op.a + op.b))).setP i q.inc).over)))]), (.v (.bool (false)))]) := by
  have hl := (List.getElem?_eq_some_iff.1 hq).1
  have k1 : ¬ (6 : Int) = 1 := by decide
  have k2 : ¬ (6 : Int) = 2 := by decide
  have k3 : ¬ (6 : Int) = 3 := by decide
  have k4 : ¬ (6 : Int) = 4 := by decide
  have k5 : ¬ (6 : Int) = 5 := by decide
  have k6 : ¬ (1 : Int) = 0 := by decide
  rcases h0 with h0 | h0
  · have hp := ref20_put_ev { x with r0 := w64 (x.r0 + op.b) } h.procs i hl q.inc
    simp only [Ex.setReg, Ex.reg, h0, if_true]
    simp only [Pr.inc, w64] at hp ⊢
    rw [callZ, evL_code ext_ref20_step code_ref20_step]
    simp only [c_ref20_step, h1, k1, k2, k3, k4, k5, hq, hp, Pr.r, Int.natCast_nonneg, Int.toNat_natCast, List.getElem?_map, Option.map_some, ints_lo, procs_lo, evts_lo, keys_lo, Nat.reduceLT, Nat.reduceLeDiff, Go.Ev.runFunc, Go.Ev.exec, Go.Ev.evOpers, Go.Ev.evOper, Go.Ev.item_op, Go.Ev.item_P, Go.Ev.evOp, Go.Ev.evs, Go.Ev.Opnd.ev, Go.Ev.Env.get, Go.Ev.Env.set, Go.Ev.look, Go.Ev.argVars, Go.Ev.cellsAt, Go.Ev.loadC, Go.Ev.AV.cells, Go.Ev.AV.uc, Go.Ev.plains, Go.Ev.AV.plain, Go.Ev.bin_add, Go.Ev.bin_eql, Go.Ev.resVals, Go.Ev.resVal, Go.Ev.resOf, Go.Ev.kill, Go.Ev.leave, Go.Ev.storeLo, Go.Ev.lo_v, Go.Ev.lo_agg, Go.Ev.lo_tup, Go.Ev.lo_fsl, Go.Ev.los_nil, Go.Ev.los_cons, Go.Ev.frz_lo, ↓Go.Ev.obind, ↓reduceIte, List.length_cons, List.length_nil, List.getElem?_cons_zero, List.getElem?_cons_succ, List.take_succ_cons, List.take_zero, List.take_nil, List.drop_succ_cons, List.drop_zero, List.drop_nil, List.cons_append, List.nil_append, List.append_nil, List.set_cons_zero, List.set_cons_succ, List.head?_cons, Nat.reduceAdd, Nat.reduceEqDiff, Nat.reduceMul, Nat.reduceLT, Nat.reduceLeDiff, Int.reduceLE, Int.reduceToNat, reduceCtorEq, decide_true, decide_false, Bool.and_self, Bool.false_eq_true, and_self, ne_eq, not_false_eq_true, List.cons_ne_nil, Nat.zero_add, Nat.add_zero, Nat.le_refl, eq_self]
  · have hp := ref20_put_ev { x with r1 := w64 (x.r1 + op.b) } h.procs i hl q.inc
    simp only [Ex.setReg, Ex.reg, h0, k6, if_false]
    simp only [Pr.inc, w64] at hp ⊢
    rw [callZ, evL_code ext_ref20_step code_ref20_step]
    simp only [c_ref20_step, h1, k1, k2, k3, k4, k5, hq, hp, Pr.r, Int.natCast_nonneg, Int.toNat_natCast, List.getElem?_map, Option.map_some, ints_lo, procs_lo, evts_lo, keys_lo, Nat.reduceLeDiff, Go.Ev.runFunc, Go.Ev.exec, Go.Ev.evOpers, Go.Ev.evOper, Go.Ev.item_op, Go.Ev.item_P, Go.Ev.evOp, Go.Ev.evs, Go.Ev.Opnd.ev, Go.Ev.Env.get, Go.Ev.Env.set, Go.Ev.look, Go.Ev.argVars, Go.Ev.cellsAt, Go.Ev.loadC, Go.Ev.AV.cells, Go.Ev.AV.uc, Go.Ev.plains, Go.Ev.AV.plain, Go.Ev.bin_add, Go.Ev.bin_eql, Go.Ev.resVals, Go.Ev.resVal, Go.Ev.resOf, Go.Ev.kill, Go.Ev.leave, Go.Ev.storeLo, Go.Ev.lo_v, Go.Ev.lo_agg, Go.Ev.lo_tup, Go.Ev.lo_fsl, Go.Ev.los_nil, Go.Ev.los_cons, Go.Ev.frz_lo, ↓Go.Ev.obind, ↓reduceIte, List.length_cons, List.length_nil, List.getElem?_cons_zero, List.getElem?_cons_succ, List.take_succ_cons, List.take_zero, List.take_nil, List.drop_succ_cons, List.drop_zero, List.drop_nil, List.cons_append, List.nil_append, List.append_nil, List.set_cons_zero, List.set_cons_succ, List.head?_cons, Nat.reduceAdd, Nat.reduceEqDiff, Nat.reduceMul, Nat.reduceLeDiff, Int.reduceLE, Int.reduceToNat, reduceCtorEq, decide_true, decide_false, Bool.and_self, Bool.false_eq_true, and_self, ne_eq, not_false_eq_true, List.cons_ne_nil, Nat.zero_add, Nat.add_zero, Nat.lt_add_one, Nat.le_refl, eq_self]
theorem rstep_less (h : x.Small) (hq : x.procs[i]? = some q) (h1 : op.code = 7) (h0 : op.a = 0 ∨ op.a = 1) :
    callZ (evL T) n_ref20_step [(.agg [(.v (.int .i64 (x.r0))), (.v (.int .i64 (x.r1))), (.fsl ((x.procs).map Pr.r) false), (.v (.int .i64 (x.sum))), (.v (.int .i64 (x.ev.time))), (.fsl ((x.ev.key).map intC) false), (.v (.int .i64 (x.ev.lp))), (.v (.int .i64 (x.ev.kind))), (.v (.int .i64 (x.ev.proc))), (.v (.int .i64 (x.ev.arg))), (.fsl ((x.out).map Evt.r) false), (.fsl ((x.gone).map keyC) false), (.v (.int .i64 (x.n))), (.v (.bool (x.over)))]), (.v (.int .i64 (i))), (.agg [(.v (.int .i64 (op.code))), (.v (.int .i64 (op.a))), (.v (.int .i64 (op.b))), (.v (.int .i64 (op.c)))])] = some (.tup [(.agg [(.v (.int .i64 ((x.setP i (if x.reg op.a < op.b then { q.inc with pc := op.c } else q.inc)).r0))), (.v (.int .i64 ((x.setP i (if x.reg op.a < op.b then { q.inc with pc := op.c } else q.inc)).r1))), (.fsl (((x.setP i (if x.reg op.a < op.b then { q.inc with pc := op.c } else q.inc)).procs).map Pr.r) false), (.v (.int .i64 ((x.setP i (if x.reg op.a < op.b then { q.inc with pc := op.c } else q.inc)).sum))), (.v (.int .i64 ((x.setP i (if x.reg op.a < op.b then { q.inc with pc := op.c } else q.inc)).ev.time))), (.fsl (((x.setP i (if x.reg op.a < op.b then { q.inc with pc := op.c } else q.inc)).ev.key).map intC) false), (.v (.int .i64 ((x.setP i (if x.reg op.a < op.b then { q.inc with pc := op.c } else q.inc)).ev.lp))), (.v (.int .i64 ((x.setP i (if x.reg op.a < op.b then { q.inc with pc := op.c } else q.inc)).ev.kind))), (.v (.int .i64 ((x.setP i (if x.reg op.a < op.b then { q.inc with pc := op.c } else q.inc)).ev.proc))), (.v (.int .i64 ((x.setP i (if x.reg op.a < op.b then { q.inc with pc := op.c } else q.inc)).ev.arg))), (.fsl (((x.setP i (if x.reg op.a < op.b then { q.inc with pc := op.c } else q.inc)).out).map Evt.r) false), (.fsl (((x.setP i (if x.reg op.a < op.b then { q.inc with pc := op.c } else q.inc)).gone).map keyC) false), (.v (.int .i64 ((x.setP i (if x.reg op.a < op.b then { q.inc with pc := op.c } else q.inc)).n))), (.v (.bool ((x.setP i (if x.reg op.a < op.b then { q.inc with pc := op.c } else q.inc)).over)))]), (.v (.bool (false)))]) := by
  have hl := (List.getElem?_eq_some_iff.1 hq).1
  have k1 : ¬ (7 : Int) = 1 := by decide
  have k2 : ¬ (7 : Int) = 2 := by decide
  have k3 : ¬ (7 : Int) = 3 := by decide
  have k4 : ¬ (7 : Int) = 4 := by decide
  have k5 : ¬ (7 : Int) = 5 := by decide
  have k5' : ¬ (7 : Int) = 6 := by decide
  have k6 : ¬ (1 : Int) = 0 := by decide
  by_cases hr : x.reg op.a < op.b
  · have hp := ref20_put_ev x h.procs i hl { q.inc with pc := op.c }
    simp only [Pr.inc, w64] at hp
    rw [if_pos hr]
    rw [callZ, evL_code ext_ref20_step code_ref20_step]
    rcases h0 with h0 | h0 <;> simp only [Ex.reg, h0, k6, if_true, if_false] at hr <;>
    simp only [c_ref20_step, h0, h1, k1, k2, k3, k4, k5, k5', hr, hq, hp, Pr.inc, w64, Pr.r, Int.natCast_nonneg, Int.toNat_natCast, List.getElem?_map, Option.map_some, ints_lo, procs_lo, evts_lo, keys_lo, Nat.reduceLT, Nat.reduceLeDiff, Go.Ev.runFunc, Go.Ev.exec, Go.Ev.evOpers, Go.Ev.evOper, Go.Ev.item_op, Go.Ev.item_P, Go.Ev.evOp, Go.Ev.evs, Go.Ev.Opnd.ev, Go.Ev.Env.get, Go.Ev.Env.set, Go.Ev.look, Go.Ev.argVars, Go.Ev.cellsAt, Go.Ev.loadC, Go.Ev.AV.cells, Go.Ev.AV.uc, Go.Ev.plains, Go.Ev.AV.plain, Go.Ev.bin_add, Go.Ev.bin_eql, Go.Ev.bin_lss, Go.Ev.resVals, Go.Ev.resVal, Go.Ev.resOf, Go.Ev.kill, Go.Ev.leave, Go.Ev.storeLo, Go.Ev.lo_v, Go.Ev.lo_agg, Go.Ev.lo_tup, Go.Ev.lo_fsl, Go.Ev.los_nil, Go.Ev.los_cons, Go.Ev.frz_lo, ↓Go.Ev.obind, ↓reduceIte, List.length_cons, List.length_nil, List.getElem?_cons_zero, List.getElem?_cons_succ, List.take_succ_cons, List.take_zero, List.take_nil, List.drop_succ_cons, List.drop_zero, List.drop_nil, List.cons_append, List.nil_append, List.append_nil, List.set_cons_zero, List.set_cons_succ, List.head?_cons, Nat.reduceAdd, Nat.reduceEqDiff, Nat.reduceMul, Nat.reduceLT, Nat.reduceLeDiff, Int.reduceLE, Int.reduceToNat, reduceCtorEq, decide_true, decide_false, Bool.and_self, Bool.false_eq_true, and_self, ne_eq, not_false_eq_true, List.cons_ne_nil, Nat.zero_add, Nat.add_zero, Nat.lt_add_one, Nat.le_refl, eq_self]
  · have hp := ref20_put_ev x h.procs i hl q.inc
    simp only [Pr.inc, w64] at hp
    rw [if_neg hr]
    rw [callZ, evL_code ext_ref20_step code_ref20_step]
    rcases h0 with h0 | h0 <;> simp only [Ex.reg, h0, k6, if_true, if_false] at hr <;>
    simp only [c_ref20_step, h0, h1, k1, k2, k3, k4, k5, k5', hr, hq, hp, Pr.inc, w64, Pr.r, Int.natCast_nonneg, Int.toNat_natCast, List.getElem?_map, Option.map_some, ints_lo, procs_lo, evts_lo, keys_lo, Nat.reduceLT, Nat.reduceLeDiff, Go.Ev.runFunc, Go.Ev.exec, Go.Ev.evOpers, Go.Ev.evOper, Go.Ev.item_op, Go.Ev.item_P, Go.Ev.evOp, Go.Ev.evs, Go.Ev.Opnd.ev, Go.Ev.Env.get, Go.Ev.Env.set, Go.Ev.look, Go.Ev.argVars, Go.Ev.cellsAt, Go.Ev.loadC, Go.Ev.AV.cells, Go.Ev.AV.uc, Go.Ev.plains, Go.Ev.AV.plain, Go.Ev.bin_add, Go.Ev.bin_eql, Go.Ev.bin_lss, Go.Ev.resVals, Go.Ev.resVal, Go.Ev.resOf, Go.Ev.kill, Go.Ev.leave, Go.Ev.storeLo, Go.Ev.lo_v, Go.Ev.lo_agg, Go.Ev.lo_tup, Go.Ev.lo_fsl, Go.Ev.los_nil, Go.Ev.los_cons, Go.Ev.frz_lo, ↓Go.Ev.obind, ↓reduceIte, List.length_cons, List.length_nil, List.getElem?_cons_zero, List.getElem?_cons_succ, List.take_succ_cons, List.take_zero, List.take_nil, List.drop_succ_cons, List.drop_zero, List.drop_nil, List.cons_append, List.nil_append, List.append_nil, List.set_cons_zero, List.set_cons_succ, List.head?_cons, Nat.reduceAdd, Nat.reduceEqDiff, Nat.reduceMul, Nat.reduceLT, Nat.reduceLeDiff, Int.reduceLE, Int.reduceToNat, reduceCtorEq, decide_true, decide_false, Bool.and_self, Bool.false_eq_true, and_self, ne_eq, not_false_eq_true, List.cons_ne_nil, Nat.zero_add, Nat.add_zero, Nat.lt_add_one, Nat.le_refl, eq_self]
theorem rstep_end (h : x.Small) (hq : x.procs[i]? = some q) (h1 : op.code = 8) :
    callZ (evL T) n_ref20_step [(.agg [(.v (.int .i64 (x.r0))), (.v (.int .i64 (x.r1))), (.fsl ((x.procs).map Pr.r) false), (.v (.int .i64 (x.sum))), (.v (.int .i64 (x.ev.time))), (.fsl ((x.ev.key).map intC) false), (.v (.int .i64 (x.ev.lp))), (.v (.int .i64 (x.ev.kind))), (.v (.int .i64 (x.ev.proc))), (.v (.int .i64 (x.ev.arg))), (.fsl ((x.out).map Evt.r) false), (.fsl ((x.gone).map keyC) false), (.v (.int .i64 (x.n))), (.v (.bool (x.over)))]), (.v (.int .i64 (i))), (.agg [(.v (.int .i64 (op.code))), (.v (.int .i64 (op.a))), (.v (.int .i64 (op.b))), (.v (.int .i64 (op.c)))])] = some (.tup [(.agg [(.v (.int .i64 ((x.setP i { q.inc with alive := false }).r0))), (.v (.int .i64 ((x.setP i { q.inc with alive := false }).r1))), (.fsl (((x.setP i { q.inc with alive := false }).procs).map Pr.r) false), (.v (.int .i64 ((x.setP i { q.inc with alive := false }).sum))), (.v (.int .i64 ((x.setP i { q.inc with alive := false }).ev.time))), (.fsl (((x.setP i { q.inc with alive := false }).ev.key).map intC) false), (.v (.int .i64 ((x.setP i { q.inc with alive := false }).ev.lp))), (.v (.int .i64 ((x.setP i { q.inc with alive := false }).ev.kind))), (.v (.int .i64 ((x.setP i { q.inc with alive := false }).ev.proc))), (.v (.int .i64 ((x.setP i { q.inc with alive := false }).ev.arg))), (.fsl (((x.setP i { q.inc with alive := false }).out).map Evt.r) false), (.fsl (((x.setP i { q.inc with alive := false }).gone).map keyC) false), (.v (.int .i64 ((x.setP i { q.inc with alive := false }).n))), (.v (.bool ((x.setP i { q.inc with alive := false }).over)))]), (.v (.bool (true)))]) := by
  have hl := (List.getElem?_eq_some_iff.1 hq).1
  have k1 : ¬ (8 : Int) = 1 := by decide
  have k2 : ¬ (8 : Int) = 2 := by decide
  have k3 : ¬ (8 : Int) = 3 := by decide
  have k4 : ¬ (8 : Int) = 4 := by decide
  have k5 : ¬ (8 : Int) = 5 := by decide
  have k6 : ¬ (8 : Int) = 6 := by decide
  have k7 : ¬ (8 : Int) = 7 := by decide
  have hp := ref20_put_ev x h.procs i hl { q.inc with alive := false }
  simp only [Pr.inc, w64] at hp ⊢
  rw [callZ, evL_code ext_ref20_step code_ref20_step]
  simp only [c_ref20_step, h1, k1, k2, k3, k4, k5, k6, k7, hq, hp, Pr.r, Int.natCast_nonneg, Int.toNat_natCast, List.getElem?_map, Option.map_some, ints_lo, procs_lo, evts_lo, keys_lo, Nat.reduceLeDiff, Go.Ev.runFunc, Go.Ev.exec, Go.Ev.evOpers, Go.Ev.evOper, Go.Ev.item_op, Go.Ev.item_P, Go.Ev.evOp, Go.Ev.evs, Go.Ev.Opnd.ev, Go.Ev.Env.get, Go.Ev.Env.set, Go.Ev.look, Go.Ev.argVars, Go.Ev.cellsAt, Go.Ev.loadC, Go.Ev.AV.cells, Go.Ev.AV.uc, Go.Ev.plains, Go.Ev.AV.plain, Go.Ev.bin_add, Go.Ev.bin_eql, Go.Ev.resVals, Go.Ev.resVal, Go.Ev.resOf, Go.Ev.kill, Go.Ev.leave, Go.Ev.storeLo, Go.Ev.lo_v, Go.Ev.lo_agg, Go.Ev.lo_tup, Go.Ev.lo_fsl, Go.Ev.los_nil, Go.Ev.los_cons, Go.Ev.frz_lo, ↓Go.Ev.obind, ↓reduceIte, List.length_cons, List.length_nil, List.getElem?_cons_zero, List.getElem?_cons_succ, List.take_succ_cons, List.take_zero, List.take_nil, List.drop_succ_cons, List.drop_zero, List.drop_nil, List.cons_append, List.nil_append, List.append_nil, List.set_cons_zero, List.set_cons_succ, List.head?_cons, Nat.reduceAdd, Nat.reduceEqDiff, Nat.reduceLeDiff, reduceCtorEq, decide_false, Bool.and_self, Bool.false_eq_true, and_self, ne_eq, not_false_eq_true, List.cons_ne_nil, Nat.zero_add, Nat.add_zero, Nat.le_refl, eq_self]
end
end Go.Proofs.Ytdpeepljabbcfaa.K

namespace Go.Proofs.Ytdpeepljabbcfaa.K
open Go.Ev
set_option linter.unusedSimpArgs false
set_option linter.unusedVariables false
set_option maxRecDepth 10000
/-- One instruction of an activation, and whether the activation goes on. -/
def stepR (x : Ex) (i : Nat) (q : Pr) (op : OpI) : Ex × Bool :=
  if (stepE (x.setP i q.inc) i q.inc op).2 = 1 then ((stepE (x.setP i q.inc) i q.inc op).1, true)
  else if (stepE (x.setP i q.inc) i q.inc op).2 = 2 then (killE (stepE (x.setP i q.inc) i q.inc op).1 i, true)
  else ((stepE (x.setP i q.inc) i q.inc op).1, false)
theorem rstep_ev (x : Ex) (i : Nat) (op : OpI) (q : Pr) (h : x.Small) (hg : x.gone.length < 1000) (hi : x.ev.proc = i) (hq : x.procs[i]? = some q) (ho : OpOk' op) :
    callZ (evL T) n_ref20_step [(.agg [(.v (.int .i64 (x.r0))), (.v (.int .i64 (x.r1))), (.fsl ((x.procs).map Pr.r) false), (.v (.int .i64 (x.sum))), (.v (.int .i64 (x.ev.time))), (.fsl ((x.ev.key).map intC) false), (.v (.int .i64 (x.ev.lp))), (.v (.int .i64 (x.ev.kind))), (.v (.int .i64 (x.ev.proc))), (.v (.int .i64 (x.ev.arg))), (.fsl ((x.out).map Evt.r) false), (.fsl ((x.gone).map keyC) false), (.v (.int .i64 (x.n))), (.v (.bool (x.over)))]), (.v (.int .i64 (i))), (.agg [(.v (.int .i64 (op.code))), (.v (.int .i64 (op.a))), (.v (.int .i64 (op.b))), (.v (.int .i64 (op.c)))])] = some (.tup [(.agg [(.v (.int .i64 ((stepR x i q op).1.r0))), (.v (.int .i64 ((stepR x i q op).1.r1))), (.fsl (((stepR x i q op).1.procs).map Pr.r) false), (.v (.int .i64 ((stepR x i q op).1.sum))), (.v (.int .i64 ((stepR x i q op).1.ev.time))), (.fsl (((stepR x i q op).1.ev.key).map intC) false), (.v (.int .i64 ((stepR x i q op).1.ev.lp))), (.v (.int .i64 ((stepR x i q op).1.ev.kind))), (.v (.int .i64 ((stepR x i q op).1.ev.proc))), (.v (.int .i64 ((stepR x i q op).1.ev.arg))), (.fsl (((stepR x i q op).1.out).map Evt.r) false), (.fsl (((stepR x i q op).1.gone).map keyC) false), (.v (.int .i64 ((stepR x i q op).1.n))), (.v (.bool ((stepR x i q op).1.over)))]), (.v (.bool ((stepR x i q op).2)))]) := by
  have hl := (List.getElem?_eq_some_iff.1 hq).1
  have hc : op.code = 1 ∨ op.code = 2 ∨ op.code = 3 ∨ op.code = 4 ∨ op.code = 5 ∨ op.code = 6 ∨ op.code = 7 ∨ op.code = 8 := by have := ho.code; omega
  have fin : ∀ (y : Ex) (b : Bool), stepR x i q op = (y, b) → callZ (evL T) n_ref20_step [(.agg [(.v (.int .i64 (x.r0))), (.v (.int .i64 (x.r1))), (.fsl ((x.procs).map Pr.r) false), (.v (.int .i64 (x.sum))), (.v (.int .i64 (x.ev.time))), (.fsl ((x.ev.key).map intC) false), (.v (.int .i64 (x.ev.lp))), (.v (.int .i64 (x.ev.kind))), (.v (.int .i64 (x.ev.proc))), (.v (.int .i64 (x.ev.arg))), (.fsl ((x.out).map Evt.r) false), (.fsl ((x.gone).map keyC) false), (.v (.int .i64 (x.n))), (.v (.bool (x.over)))]), (.v (.int .i64 (i))), (.agg [(.v (.int .i64 (op.code))), (.v (.int .i64 (op.a))), (.v (.int .i64 (op.b))), (.v (.int .i64 (op.c)))])] = some (.tup [(.agg [(.v (.int .i64 (y.r0))), (.v (.int .i64 (y.r1))), (.fsl ((y.procs).map Pr.r) false), (.v (.int .i64 (y.sum))), (.v (.int .i64 (y.ev.time))), (.fsl ((y.ev.key).map intC) false), (.v (.int .i64 (y.ev.lp))), (.v (.int .i64 (y.ev.kind))), (.v (.int .i64 (y.ev.proc))), (.v (.int .i64 (y.ev.arg))), (.fsl ((y.out).map Evt.r) false), (.fsl ((y.gone).map keyC) false), (.v (.int .i64 (y.n))), (.v (.bool (y.over)))]), (.v (.bool (b)))]) → callZ (evL T) n_ref20_step [(.agg [(.v (.int .i64 (x.r0))), (.v (.int .i64 (x.r1))), (.fsl ((x.procs).map Pr.r) false), (.v (.int .i64 (x.sum))), (.v (.int .i64 (x.ev.time))), (.fsl ((x.ev.key).map intC) false), (.v (.int .i64 (x.ev.lp))), (.v (.int .i64 (x.ev.kind))), (.v (.int .i64 (x.ev.proc))), (.v (.int .i64 (x.ev.arg))), (.fsl ((x.out).map Evt.r) false), (.fsl ((x.gone).map keyC) false), (.v (.int .i64 (x.n))), (.v (.bool (x.over)))]), (.v (.int .i64 (i))), (.agg [(.v (.int .i64 (op.code))), (.v (.int .i64 (op.a))), (.v (.int .i64 (op.b))), (.v (.int .i64 (op.c)))])] = some (.tup [(.agg [(.v (.int .i64 ((stepR x i q op).1.r0))), (.v (.int .i64 ((stepR x i q op).1.r1))), (.fsl (((stepR x i q op).1.procs).map Pr.r) false), (.v (.int .i64 ((stepR x i q op).1.sum))), (.v (.int .i64 ((stepR x i q op).1.ev.time))), (.fsl (((stepR x i q op).1.ev.key).map intC) false), (.v (.int .i64 ((stepR x i q op).1.ev.lp))), (.v (.int .i64 ((stepR x i q op).1.ev.kind))), (.v (.int .i64 ((stepR x i q op).1.ev.proc))), (.v (.int .i64 ((stepR x i q op).1.ev.arg))), (.fsl (((stepR x i q op).1.out).map Evt.r) false), (.fsl (((stepR x i q op).1.gone).map keyC) false), (.v (.int .i64 ((stepR x i q op).1.n))), (.v (.bool ((stepR x i q op).1.over)))]), (.v (.bool ((stepR x i q op).2)))]) := by
    intro y b e k; rw [e]; exact k
  rcases hc with hc | hc | hc | hc | hc | hc | hc | hc
  · refine fin _ _ ?_ (rstep_hold x i op q h hq hc)
    simp [stepR, stepE, hc, Ex.setP, Ex.create, Ex.ownE, Ex.kid, hi]
  · refine fin _ _ ?_ (rstep_send x i op q h hq hc)
    simp [stepR, stepE, hc, Ex.setP, Ex.create, Ex.kid]
  · refine fin _ _ ?_ (rstep_timer x i op q h hg hq hc)
    by_cases ht : 0 < q.timer.length
    · simp [stepR, stepE, hc, Ex.timerE, Ex.stopE, Ex.setP, Ex.create, Ex.ownE, Ex.kid, hi, ht, Pr.inc, List.set_set]
    · simp [stepR, stepE, hc, Ex.timerE, Ex.stopE, Ex.setP, Ex.create, Ex.ownE, Ex.kid, hi, ht, Pr.inc, List.set_set]
  · refine fin _ _ ?_ (rstep_stop x i op q h hg hq hc)
    by_cases ht : 0 < q.timer.length
    · simp [stepR, stepE, hc, Ex.stopE, Ex.setP, ht, Pr.inc, List.set_set]
    · simp [stepR, stepE, hc, Ex.stopE, Ex.setP, ht, Pr.inc]
  · refine fin _ _ ?_ (rstep_spawn x i op q h hq hc)
    simp [stepR, stepE, hc]
  · refine fin _ _ ?_ (rstep_add x i op q h hq hc (ho.reg (.inl hc)))
    rcases ho.reg (.inl hc) with h0 | h0 <;> simp [stepR, stepE, hc, Ex.setP, Ex.setReg, Ex.reg, h0]
  · refine fin _ _ ?_ (rstep_less x i op q h hq hc (ho.reg (.inr hc)))
    have hr : (x.setP i q.inc).reg op.a = x.reg op.a := rfl
    by_cases ht : x.reg op.a < op.b
    · have hr2 : (x.setP i q.inc).reg op.a < op.b := ht
      have : (stepE (x.setP i q.inc) i q.inc op) = ((x.setP i q.inc).setP i { q.inc with pc := op.c }, 0) := by simp only [stepE, hc]; rw [if_pos hr2]; rfl
      simp only [stepR, this, ht, if_true]
      simp [Ex.setP, List.set_set]
    · have hr2 : ¬ (x.setP i q.inc).reg op.a < op.b := ht
      have : (stepE (x.setP i q.inc) i q.inc op) = (x.setP i q.inc, 0) := by simp only [stepE, hc]; rw [if_neg hr2]; rfl
      simp only [stepR, this, ht, if_false]
      simp
  · refine fin _ _ ?_ (rstep_end x i op q h hq hc)
    have : (x.setP i q.inc).procs[i]? = some q.inc := by simp only [Ex.setP]; rw [List.getElem?_set_self hl]
    have hst : (stepE (x.setP i q.inc) i q.inc op) = (x.setP i q.inc, 2) := by simp [stepE, hc]
    simp only [stepR, hst, killE, this]
    simp [Ex.setP, List.set_set]
theorem actE_succ (p : List OpI) (i n : Nat) (x : Ex) (q : Pr) (hq : x.procs[i]? = some q) : actE p i (n + 1) x = match p[q.pc.toNat]? with
    | none => killE x i
    | some op => if (stepR x i q op).2 = true then (stepR x i q op).1 else actE p i n (stepR x i q op).1 := by
  simp only [actE, hq]
  cases hp : p[q.pc.toNat]? with
  | none => rfl
  | some op =>
    show (if (stepE (x.setP i q.inc) i q.inc op).2 = 1 then (stepE (x.setP i q.inc) i q.inc op).1 else if (stepE (x.setP i q.inc) i q.inc op).2 = 2 then killE (stepE (x.setP i q.inc) i q.inc op).1 i else actE p i n (stepE (x.setP i q.inc) i q.inc op).1) = (if (stepR x i q op).2 = true then (stepR x i q op).1 else actE p i n (stepR x i q op).1)
    unfold stepR
    by_cases h1 : (stepE (x.setP i q.inc) i q.inc op).2 = 1
    · simp only [h1, if_true]
    by_cases h2 : (stepE (x.setP i q.inc) i q.inc op).2 = 2
    · rw [if_neg h1, if_pos h2, if_neg h1, if_pos h2]; rfl
    · simp only [h1, h2, if_false, Bool.false_eq_true]
end Go.Proofs.Ytdpeepljabbcfaa.K

namespace Go.Proofs.Ytdpeepljabbcfaa.K
open Go.Ev
set_option linter.unusedSimpArgs false
set_option linter.unusedVariables false
set_option maxRecDepth 10000
theorem killE_prog (x : Ex) (i : Nat) {q : Pr} (hq : x.procs[i]? = some q) : ∃ q', (killE x i).procs[i]? = some q' ∧ q'.prog = q.prog := by
  have hl := (List.getElem?_eq_some_iff.1 hq).1
  refine ⟨{ q with alive := false }, ?_, rfl⟩
  unfold killE; rw [hq]; simp only [Ex.setP]; rw [List.getElem?_set_self hl]
theorem stepE_prog (x : Ex) (i : Nat) (q : Pr) (op : OpI) (hq : x.procs[i]? = some q) : ∃ q', (stepE x i q op).1.procs[i]? = some q' ∧ q'.prog = q.prog := by
  have hl := (List.getElem?_eq_some_iff.1 hq).1
  have hst : ∃ q', (x.stopE i q).procs[i]? = some q' ∧ q'.prog = q.prog := by
    unfold Ex.stopE; split
    · exact ⟨{ q with timer := [] }, by simp only; rw [List.getElem?_set_self hl], rfl⟩
    · exact ⟨q, hq, rfl⟩
  unfold stepE
  split
  · exact ⟨q, hq, rfl⟩
  split
  · exact ⟨q, hq, rfl⟩
  split
  · obtain ⟨q', h1, _⟩ := hst
    have hl2 := (List.getElem?_eq_some_iff.1 h1).1
    exact ⟨{ q with timer := (x.stopE i q).kid }, by show ((x.stopE i q).procs.set i _)[i]? = _; rw [List.getElem?_set_self hl2], rfl⟩
  split
  · exact hst
  split
  · refine ⟨q, ?_, rfl⟩
    unfold Ex.spawnE; split
    · show (x.procs ++ [_])[i]? = _
      rw [List.getElem?_append_left hl]; exact hq
    · exact hq
  split
  · refine ⟨q, ?_, rfl⟩
    unfold Ex.setReg; split <;> exact hq
  split
  · split
    · exact ⟨{ q with pc := op.c }, by simp only [Ex.setP]; rw [List.getElem?_set_self hl], rfl⟩
    · exact ⟨q, hq, rfl⟩
  · exact ⟨q, hq, rfl⟩
theorem stepR_prog (x : Ex) (i : Nat) (q : Pr) (op : OpI) (hq : x.procs[i]? = some q) : ∃ q', (stepR x i q op).1.procs[i]? = some q' ∧ q'.prog = q.prog := by
  have hl := (List.getElem?_eq_some_iff.1 hq).1
  have h0 : (x.setP i q.inc).procs[i]? = some q.inc := by simp only [Ex.setP]; rw [List.getElem?_set_self hl]
  obtain ⟨q', h1, h2⟩ := stepE_prog (x.setP i q.inc) i q.inc op h0
  unfold stepR
  split
  · exact ⟨q', h1, h2⟩
  split
  · obtain ⟨q2, h3, h4⟩ := killE_prog _ i h1
    exact ⟨q2, h3, h4.trans h2⟩
  · exact ⟨q', h1, h2⟩
theorem ActInv.stepR {e : Evt} {i n : Nat} {x : Ex} (h : ActInv e i n x) {q : Pr} (hq : x.procs[i]? = some q) (hpc : 0 ≤ q.pc ∧ q.pc + 1 ≤ 1000000) {op : OpI} (ho : OpOk' op) : ActInv e i (n + 1) (stepR x i q op).1 := by
  have hlt := (List.getElem?_eq_some_iff.1 hq).1
  have hwq : w64 (q.pc + 1) = q.pc + 1 := w64_small (by omega) (by omega)
  have hz : ActInv e i n (x.setP i q.inc) := by
    have := h.pc hq (pc := q.pc + 1) ⟨by omega, by omega⟩ q.alive
    unfold Pr.inc; rw [hwq]; exact this
  have hzq : (x.setP i q.inc).procs[i]? = some q.inc := by simp only [Ex.setP]; rw [List.getElem?_set_self hlt]
  have hn := hz.step hzq (show 0 ≤ q.inc.pc ∧ q.inc.pc ≤ 1000000 by unfold Pr.inc; simp only [hwq]; omega) ho
  unfold K.stepR
  split
  · exact hn
  split
  · obtain ⟨q', h1, h2⟩ := hn.has
    have := hn.pc h1 h2 false
    unfold killE; rw [h1]; exact this
  · exact hn
section
variable (c : Cfg) (e0 : Evt) (i : Nat) (p : List OpI) (pr : Int)
/-- Where the reference's activation ends. -/
def RefEnd (e0 : Evt) (i : Nat) (F : Ex) (y : CExit × Env × Store) : Prop :=
  y.2.1.marks = [] ∧ ((y.1 = .ret ∧ Ev.look y.2.1.vars 6 = some (.ptr 1 0 0 0) ∧ ∃ q : Pr, y.2.2 = [.row 14 [[(.v (.int .i64 (F.r0))), (.v (.int .i64 (F.r1))), (.fsl ((F.procs).map Pr.r) false), (.v (.int .i64 (F.sum))), (.v (.int .i64 (F.ev.time))), (.fsl ((F.ev.key).map intC) false), (.v (.int .i64 (F.ev.lp))), (.v (.int .i64 (F.ev.kind))), (.v (.int .i64 (F.ev.proc))), (.v (.int .i64 (F.ev.arg))), (.fsl ((F.out).map Evt.r) false), (.fsl ((F.gone).map keyC) false), (.v (.int .i64 (F.n))), (.v (.bool (F.over)))]] 0, .row 14 [[(.v (.int .i64 (F.r0))), (.v (.int .i64 (F.r1))), (.fsl ((F.procs).map Pr.r) false), (.v (.int .i64 (F.sum))), (.v (.int .i64 (F.ev.time))), (.fsl ((F.ev.key).map intC) false), (.v (.int .i64 (F.ev.lp))), (.v (.int .i64 (F.ev.kind))), (.v (.int .i64 (F.ev.proc))), (.v (.int .i64 (F.ev.arg))), (.fsl ((F.out).map Evt.r) false), (.fsl ((F.gone).map keyC) false), (.v (.int .i64 (F.n))), (.v (.bool (F.over)))]] 0, .row 4 [q.r] 0, .row 14 [[(.v (.int .i64 (F.r0))), (.v (.int .i64 (F.r1))), (.fsl ((F.procs).map Pr.r) false), (.v (.int .i64 (F.sum))), (.v (.int .i64 (F.ev.time))), (.fsl ((F.ev.key).map intC) false), (.v (.int .i64 (F.ev.lp))), (.v (.int .i64 (F.ev.kind))), (.v (.int .i64 (F.ev.proc))), (.v (.int .i64 (F.ev.arg))), (.fsl ((F.out).map Evt.r) false), (.fsl ((F.gone).map keyC) false), (.v (.int .i64 (F.n))), (.v (.bool (F.over)))]] 0]) ∨
    (y.1 = .exit 0 ∧ ∃ z : Ex, ActInv e0 i 16 z ∧ killE z i = F ∧ Ev.look y.2.1.vars 4 = some (.ptr 0 0 0 0) ∧ Ev.look y.2.1.vars 6 = some (.ptr 1 0 0 0) ∧ Ev.look y.2.1.vars 2 = some (.v (.int .i64 (i))) ∧
      (y.2.2 = [.row 14 [[(.v (.int .i64 (z.r0))), (.v (.int .i64 (z.r1))), (.fsl ((z.procs).map Pr.r) false), (.v (.int .i64 (z.sum))), (.v (.int .i64 (z.ev.time))), (.fsl ((z.ev.key).map intC) false), (.v (.int .i64 (z.ev.lp))), (.v (.int .i64 (z.ev.kind))), (.v (.int .i64 (z.ev.proc))), (.v (.int .i64 (z.ev.arg))), (.fsl ((z.out).map Evt.r) false), (.fsl ((z.gone).map keyC) false), (.v (.int .i64 (z.n))), (.v (.bool (z.over)))]] 0, .row 14 [[(.v (.int .i64 (0))), (.v (.int .i64 (0))), .fsl [] false, (.v (.int .i64 (0))), (.v (.int .i64 (0))), .fsl [] false, (.v (.int .i64 (0))), (.v (.int .i64 (0))), (.v (.int .i64 (0))), (.v (.int .i64 (0))), .fsl [] false, .fsl [] false, (.v (.int .i64 (0))), (.v (.bool (false)))]] 0] ∨ ∃ q : Pr, y.2.2 = [.row 14 [[(.v (.int .i64 (z.r0))), (.v (.int .i64 (z.r1))), (.fsl ((z.procs).map Pr.r) false), (.v (.int .i64 (z.sum))), (.v (.int .i64 (z.ev.time))), (.fsl ((z.ev.key).map intC) false), (.v (.int .i64 (z.ev.lp))), (.v (.int .i64 (z.ev.kind))), (.v (.int .i64 (z.ev.proc))), (.v (.int .i64 (z.ev.arg))), (.fsl ((z.out).map Evt.r) false), (.fsl ((z.gone).map keyC) false), (.v (.int .i64 (z.n))), (.v (.bool (z.over)))]] 0, .row 14 [[(.v (.int .i64 (0))), (.v (.int .i64 (0))), .fsl [] false, (.v (.int .i64 (0))), (.v (.int .i64 (0))), .fsl [] false, (.v (.int .i64 (0))), (.v (.int .i64 (0))), (.v (.int .i64 (0))), (.v (.int .i64 (0))), .fsl [] false, .fsl [] false, (.v (.int .i64 (0))), (.v (.bool (false)))]] 0, .row 4 [q.r] 0])))
theorem ract_loop (hk : e0.key.length ≤ 1000) (hpr : e0.proc = i) (hpl : p.length ≤ 1000) (hok : ∀ op ∈ p, OpOk' op) (h0 : 0 ≤ pr) (hp : c.progs[pr.toNat]? = some p) (x : Ex) (hx : ActInv e0 i 0 x) (hxp : ∃ q, x.procs[i]? = some q ∧ q.prog = pr) :
    ∃ y, itB (exec (evL T) itL none c_ref20_activate_L1) (Ev.settle [2, 3, 4, 6, 7] true 2) ⟨[(2, (.v (.int .i64 (i)))), (3, (.fptr [(.fsl ((c.lps).map lpC) false), (.fsl ((c.progs).map progC) false), (.v (.int .i64 (c.look))), (.v (.int .i64 (c.fin))), (.v (.int .i64 (c.cap)))])), (4, .ptr 0 0 0 0), (6, .ptr 1 0 0 0), (7, (.v (.int .i64 (0))))], []⟩ [.row 14 [[(.v (.int .i64 (x.r0))), (.v (.int .i64 (x.r1))), (.fsl ((x.procs).map Pr.r) false), (.v (.int .i64 (x.sum))), (.v (.int .i64 (x.ev.time))), (.fsl ((x.ev.key).map intC) false), (.v (.int .i64 (x.ev.lp))), (.v (.int .i64 (x.ev.kind))), (.v (.int .i64 (x.ev.proc))), (.v (.int .i64 (x.ev.arg))), (.fsl ((x.out).map Evt.r) false), (.fsl ((x.gone).map keyC) false), (.v (.int .i64 (x.n))), (.v (.bool (x.over)))]] 0, .row 14 [[(.v (.int .i64 (0))), (.v (.int .i64 (0))), .fsl [] false, (.v (.int .i64 (0))), (.v (.int .i64 (0))), .fsl [] false, (.v (.int .i64 (0))), (.v (.int .i64 (0))), (.v (.int .i64 (0))), (.v (.int .i64 (0))), .fsl [] false, .fsl [] false, (.v (.int .i64 (0))), (.v (.bool (false)))]] 0] = some y ∧ RefEnd e0 i (actE p i 16 x) y := by
  have := itB_for (f := exec (evL T) itL none c_ref20_activate_L1) (s := Ev.settle [2, 3, 4, 6, 7] true 2) (α := Ex) (fun j _ => ⟨[(2, (.v (.int .i64 (i)))), (3, (.fptr [(.fsl ((c.lps).map lpC) false), (.fsl ((c.progs).map progC) false), (.v (.int .i64 (c.look))), (.v (.int .i64 (c.fin))), (.v (.int .i64 (c.cap)))])), (4, .ptr 0 0 0 0), (6, .ptr 1 0 0 0), (7, (.v (.int .i64 ((j : Int)))))], []⟩) (fun _ a => [.row 14 [[(.v (.int .i64 (a.r0))), (.v (.int .i64 (a.r1))), (.fsl ((a.procs).map Pr.r) false), (.v (.int .i64 (a.sum))), (.v (.int .i64 (a.ev.time))), (.fsl ((a.ev.key).map intC) false), (.v (.int .i64 (a.ev.lp))), (.v (.int .i64 (a.ev.kind))), (.v (.int .i64 (a.ev.proc))), (.v (.int .i64 (a.ev.arg))), (.fsl ((a.out).map Evt.r) false), (.fsl ((a.gone).map keyC) false), (.v (.int .i64 (a.n))), (.v (.bool (a.over)))]] 0, .row 14 [[(.v (.int .i64 (0))), (.v (.int .i64 (0))), .fsl [] false, (.v (.int .i64 (0))), (.v (.int .i64 (0))), .fsl [] false, (.v (.int .i64 (0))), (.v (.int .i64 (0))), (.v (.int .i64 (0))), (.v (.int .i64 (0))), .fsl [] false, .fsl [] false, (.v (.int .i64 (0))), (.v (.bool (false)))]] 0])
    (fun j a => ActInv e0 i j a ∧ (∃ q, a.procs[i]? = some q ∧ q.prog = pr) ∧ actE p i (16 - j) a = actE p i 16 x) 16 (RefEnd e0 i (actE p i 16 x)) ?_ ?_ 0 x (Nat.zero_le _) ⟨hx, hxp, rfl⟩
  · exact this
  · rintro j y hj ⟨hi1, ⟨q, hq, hqp⟩, hi2⟩
    have hpc : 0 ≤ q.pc ∧ q.pc ≤ 1000000 := by obtain ⟨q', h1, h2⟩ := hi1.has; rw [hq] at h1; cases h1; exact h2
    have hlt := (List.getElem?_eq_some_iff.1 hq).1
    have hpr' : y.ev.proc = i := by rw [hi1.ev]; exact hpr
    have hj' : (j : Int) < 16 := by omega
    have hw : IntKind.i64.wrap ((j : Int) + 1) = ((j + 1 : Nat) : Int) := by rw [w64_small (by omega) (by omega)]; simp
    rw [show 16 - j = (16 - (j + 1)) + 1 from by omega, actE_succ p i _ y q hq] at hi2
    cases hop : p[q.pc.toNat]? with
    | none =>
      rw [hop] at hi2
      simp only at hi2
      have hge : q.pc ≥ (p.length : Int) := by have := List.getElem?_eq_none_iff.1 hop; omega
      right
      simp only [c_ref20_activate_L1, hj', hge, Int.natCast_nonneg, Int.toNat_natCast, List.getElem?_map, Option.map_some, hq, hqp, h0, hp, Pr.r, progC, Go.Ev.exec, Go.Ev.evOpers, Go.Ev.evOper, Go.Ev.item_op, Go.Ev.evOp, Go.Ev.Opnd.ev, Go.Ev.Env.get, Go.Ev.Env.set, Go.Ev.look, Go.Ev.cellsAt, Go.Ev.loadC, Go.Ev.AV.cells, Go.Ev.plains, Go.Ev.AV.plain, Go.Ev.bin_lss, Go.Ev.bin_geq, List.length_map, ↓Go.Ev.obind, Go.Ev.it1, ↓reduceIte, List.length_cons, List.length_nil, List.getElem?_cons_zero, List.getElem?_cons_succ, List.take_succ_cons, List.take_zero, List.take_nil, List.drop_succ_cons, List.drop_zero, List.drop_nil, List.cons_append, List.nil_append, List.append_nil, List.set_cons_zero, List.set_cons_succ, List.head?_cons, Nat.reduceAdd, Nat.reduceEqDiff, reduceCtorEq, decide_true, Bool.and_self, Bool.false_eq_true, and_self, ne_eq, not_false_eq_true, List.cons_ne_nil, Nat.zero_add, Nat.add_zero, Nat.le_refl, eq_self]
      exact ⟨_, rfl, rfl, .inr ⟨rfl, y, ⟨hi1.ev, hi1.has, hi1.procs, by have := hi1.out; omega, by have := hi1.gone; omega⟩, hi2, rfl, rfl, rfl, .inr ⟨⟨pr, q.pc, q.alive, q.timer⟩, rfl⟩⟩⟩
    | some op =>
      rw [hop] at hi2
      simp only at hi2
      have hlp := (List.getElem?_eq_some_iff.1 hop).1
      have hge : ¬ q.pc ≥ (p.length : Int) := by omega
      have hoo := hok op (List.mem_of_getElem? hop)
      have hv := rstep_ev y i op q (hi1.small (by omega) hk) (by have := hi1.gone; omega) hpr' hq hoo
      have hn := hi1.stepR hq ⟨by omega, by omega⟩ hoo
      have hnp := stepR_prog y i q op hq
      rw [hqp] at hnp
      generalize stepR y i q op = S at hi2 hn hv hnp
      obtain ⟨z, b⟩ := S
      simp only at hi2 hn hv hnp
      cases b with
      | true =>
        right
        simp only [if_true] at hi2
        simp only [c_ref20_activate_L1, hj', hge, hv, Int.natCast_nonneg, Int.toNat_natCast, List.getElem?_map, Option.map_some, hq, hqp, h0, hp, hpc, hop, Pr.r, OpI.r, progC, ints_lo, procs_lo, evts_lo, keys_lo, Go.Ev.exec, Go.Ev.evOpers, Go.Ev.evOper, Go.Ev.item_op, Go.Ev.item_P, Go.Ev.evOp, Go.Ev.evs, Go.Ev.Opnd.ev, Go.Ev.Env.get, Go.Ev.Env.set, Go.Ev.look, Go.Ev.cellsAt, Go.Ev.loadC, Go.Ev.AV.cells, Go.Ev.plains, Go.Ev.AV.plain, Go.Ev.bin_lss, Go.Ev.bin_geq, Go.Ev.lo_v, Go.Ev.lo_agg, Go.Ev.lo_fsl, Go.Ev.los_nil, Go.Ev.los_cons, List.length_map, ↓Go.Ev.obind, Go.Ev.it1, ↓reduceIte, List.length_cons, List.length_nil, List.getElem?_cons_zero, List.getElem?_cons_succ, List.take_succ_cons, List.take_zero, List.take_nil, List.drop_succ_cons, List.drop_zero, List.drop_nil, List.cons_append, List.nil_append, List.append_nil, List.set_cons_zero, List.set_cons_succ, List.head?_cons, Nat.reduceAdd, Nat.reduceEqDiff, decide_true, decide_false, Bool.and_self, Bool.false_eq_true, and_self, ne_eq, not_false_eq_true, List.cons_ne_nil, Nat.zero_add, Nat.add_zero, Nat.le_refl, eq_self]
        exact ⟨_, rfl, rfl, .inl ⟨rfl, rfl, ⟨pr, q.pc, q.alive, q.timer⟩, by rw [← hi2]; rfl⟩⟩
      | false =>
        left
        simp only [Bool.false_eq_true, if_false] at hi2
        refine ⟨z, ?_, hn, hnp, hi2⟩
        simp only [c_ref20_activate_L1, hj', hge, hv, hw, Int.natCast_nonneg, Int.toNat_natCast, List.getElem?_map, Option.map_some, hq, hqp, h0, hp, hpc, hop, Pr.r, OpI.r, progC, progs_lo, lps_lo, ints_lo, procs_lo, evts_lo, keys_lo, Nat.reduceLT, Go.Ev.exec, Go.Ev.evOpers, Go.Ev.evOper, Go.Ev.item_op, Go.Ev.item_P, Go.Ev.evOp, Go.Ev.evs, Go.Ev.Opnd.ev, Go.Ev.Env.get, Go.Ev.Env.set, Go.Ev.look, Go.Ev.cellsAt, Go.Ev.loadC, Go.Ev.AV.cells, Go.Ev.plains, Go.Ev.AV.plain, Go.Ev.bin_add, Go.Ev.bin_lss, Go.Ev.bin_geq, Go.Ev.settle, Go.Ev.keep, Go.Ev.varsLo, Go.Ev.marksLo, Go.Ev.storeLo, Go.Ev.SObj.lo, Go.Ev.lo_v, Go.Ev.lo_agg, Go.Ev.lo_fsl, Go.Ev.lo_fptr, Go.Ev.lo_ptr, Go.Ev.los_nil, Go.Ev.los_cons, Go.Ev.loss_nil, Go.Ev.loss_cons, List.length_map, ↓Go.Ev.obind, Go.Ev.it1, ↓reduceIte, List.length_cons, List.length_nil, List.getElem?_cons_zero, List.getElem?_cons_succ, List.take_succ_cons, List.take_zero, List.take_nil, List.drop_succ_cons, List.drop_zero, List.drop_nil, List.cons_append, List.nil_append, List.append_nil, List.set_cons_zero, List.set_cons_succ, List.head?_cons, Nat.reduceAdd, Nat.reduceEqDiff, Nat.reduceLT, decide_true, decide_false, Bool.and_self, Bool.false_eq_true, and_self, ne_eq, not_false_eq_true, List.cons_ne_nil, Nat.zero_add, Nat.add_zero, Nat.lt_add_one, Nat.le_refl, eq_self]
  · rintro y ⟨hi1, _, hi2⟩
    simp only [c_ref20_activate_L1, Int.lt_irrefl, Go.Ev.exec, Go.Ev.evOpers, Go.Ev.evOper, Go.Ev.item_op, Go.Ev.evOp, Go.Ev.Opnd.ev, Go.Ev.Env.get, Go.Ev.Env.set, Go.Ev.look, Go.Ev.bin_lss, ↓Go.Ev.obind, Go.Ev.it1, ↓reduceIte, Nat.reduceEqDiff, Int.cast_ofNat_Int, decide_false, Bool.false_eq_true, eq_self]
    exact ⟨_, rfl, rfl, .inr ⟨rfl, y, hi1, hi2, rfl, rfl, rfl, .inl rfl⟩⟩
theorem ref20_activate_ev (hk : e0.key.length ≤ 1000) (hpr : e0.proc = i) (hpl : p.length ≤ 1000) (hok : ∀ op ∈ p, OpOk' op) (h0 : 0 ≤ pr) (hp : c.progs[pr.toNat]? = some p) (x : Ex) (hx : ActInv e0 i 0 x) (hxp : ∃ q, x.procs[i]? = some q ∧ q.prog = pr) :
    callZ (evL T) n_ref20_activate [(.agg [(.fsl ((c.lps).map lpC) false), (.fsl ((c.progs).map progC) false), (.v (.int .i64 (c.look))), (.v (.int .i64 (c.fin))), (.v (.int .i64 (c.cap)))]), (.agg [(.v (.int .i64 (x.r0))), (.v (.int .i64 (x.r1))), (.fsl ((x.procs).map Pr.r) false), (.v (.int .i64 (x.sum))), (.v (.int .i64 (x.ev.time))), (.fsl ((x.ev.key).map intC) false), (.v (.int .i64 (x.ev.lp))), (.v (.int .i64 (x.ev.kind))), (.v (.int .i64 (x.ev.proc))), (.v (.int .i64 (x.ev.arg))), (.fsl ((x.out).map Evt.r) false), (.fsl ((x.gone).map keyC) false), (.v (.int .i64 (x.n))), (.v (.bool (x.over)))]), (.v (.int .i64 (i)))] = some (.agg [(.v (.int .i64 ((actE p i 16 x).r0))), (.v (.int .i64 ((actE p i 16 x).r1))), (.fsl (((actE p i 16 x).procs).map Pr.r) false), (.v (.int .i64 ((actE p i 16 x).sum))), (.v (.int .i64 ((actE p i 16 x).ev.time))), (.fsl (((actE p i 16 x).ev.key).map intC) false), (.v (.int .i64 ((actE p i 16 x).ev.lp))), (.v (.int .i64 ((actE p i 16 x).ev.kind))), (.v (.int .i64 ((actE p i 16 x).ev.proc))), (.v (.int .i64 ((actE p i 16 x).ev.arg))), (.fsl (((actE p i 16 x).out).map Evt.r) false), (.fsl (((actE p i 16 x).gone).map keyC) false), (.v (.int .i64 ((actE p i 16 x).n))), (.v (.bool ((actE p i 16 x).over)))]) := by
  obtain ⟨⟨y, e, σ⟩, k1, k2, k3⟩ := ract_loop c e0 i p pr hk hpr hpl hok h0 hp x hx hxp
  simp only at k2 k3
  generalize actE p i 16 x = F at k3
  rw [callZ, evL_code ext_ref20_activate code_ref20_activate]
  rcases k3 with ⟨rfl, k4, q, rfl⟩ | ⟨rfl, z, kz, k4, k5, k6, k7, k8⟩
  · simp only [c_ref20_activate, k1, k2, k4, progs_lo, lps_lo, ints_lo, procs_lo, evts_lo, keys_lo, Nat.reduceLT, Go.Ev.runFunc, Go.Ev.exec, Go.Ev.evOpers, Go.Ev.evOper, Go.Ev.item_op, Go.Ev.evOp, Go.Ev.Opnd.ev, Go.Ev.Env.get, Go.Ev.Env.set, Go.Ev.look, Go.Ev.argVars, Go.Ev.cellsAt, Go.Ev.loadC, Go.Ev.AV.cells, Go.Ev.plains, Go.Ev.AV.plain, Go.Ev.resVals, Go.Ev.resVal, Go.Ev.resOf, Go.Ev.kill, Go.Ev.leave, Go.Ev.settle, Go.Ev.keep, Go.Ev.varsLo, Go.Ev.marksLo, Go.Ev.storeLo, Go.Ev.SObj.lo, Go.Ev.lo_v, Go.Ev.lo_agg, Go.Ev.lo_fsl, Go.Ev.lo_fptr, Go.Ev.lo_ptr, Go.Ev.los_nil, Go.Ev.los_cons, Go.Ev.loss_nil, Go.Ev.loss_cons, Go.Ev.frz_lo, ↓Go.Ev.obind, ↓Go.Ev.itL_itB, ↓reduceIte, List.length_cons, List.length_nil, List.getElem?_cons_zero, List.getElem?_cons_succ, List.take_succ_cons, List.take_zero, List.take_nil, List.drop_zero, List.cons_append, List.nil_append, Nat.reduceAdd, Nat.reduceEqDiff, Nat.reduceLT, reduceCtorEq, decide_true, Bool.and_self, and_self, ne_eq, not_false_eq_true, List.cons_ne_nil, Nat.zero_add, Nat.lt_add_one, Nat.le_refl, eq_self]
  · obtain ⟨q, hq, hpc⟩ := kz.has
    have hlt := (List.getElem?_eq_some_iff.1 hq).1
    have hv := ref20_put_ev z (by have := kz.procs; omega) i hlt { q with alive := false }
    have hkz : killE z i = z.setP i { q with alive := false } := by unfold killE; rw [hq]
    rw [hkz] at k4
    subst k4
    simp only at hv
    rcases k8 with rfl | ⟨q2, rfl⟩
    · simp only [c_ref20_activate, k1, k2, k5, k6, k7, hq, hv, Pr.r, Int.natCast_nonneg, Int.toNat_natCast, List.getElem?_map, Option.map_some, progs_lo, lps_lo, ints_lo, procs_lo, evts_lo, keys_lo, Nat.reduceLT, Nat.reduceLeDiff, Go.Ev.runFunc, Go.Ev.exec, Go.Ev.evOpers, Go.Ev.evOper, Go.Ev.item_op, Go.Ev.item_P, Go.Ev.evOp, Go.Ev.evs, Go.Ev.Opnd.ev, Go.Ev.Env.get, Go.Ev.Env.set, Go.Ev.look, Go.Ev.argVars, Go.Ev.cellsAt, Go.Ev.loadC, Go.Ev.AV.cells, Go.Ev.AV.uc, Go.Ev.plains, Go.Ev.AV.plain, Go.Ev.resVals, Go.Ev.resVal, Go.Ev.resOf, Go.Ev.kill, Go.Ev.leave, Go.Ev.settle, Go.Ev.keep, Go.Ev.varsLo, Go.Ev.marksLo, Go.Ev.storeLo, Go.Ev.SObj.lo, Go.Ev.lo_v, Go.Ev.lo_agg, Go.Ev.lo_fsl, Go.Ev.lo_fptr, Go.Ev.lo_ptr, Go.Ev.los_nil, Go.Ev.los_cons, Go.Ev.loss_nil, Go.Ev.loss_cons, Go.Ev.frz_lo, ↓Go.Ev.obind, ↓Go.Ev.itL_itB, ↓reduceIte, List.length_cons, List.length_nil, List.getElem?_cons_zero, List.getElem?_cons_succ, List.take_succ_cons, List.take_zero, List.take_nil, List.drop_succ_cons, List.drop_zero, List.drop_nil, List.cons_append, List.nil_append, List.append_nil, List.set_cons_zero, List.set_cons_succ, List.head?_cons, Nat.reduceAdd, Nat.reduceEqDiff, Nat.reduceLT, Nat.reduceLeDiff, reduceCtorEq, decide_true, Bool.and_self, Bool.false_eq_true, and_self, ne_eq, not_false_eq_true, List.cons_ne_nil, Nat.zero_add, Nat.add_zero, Nat.lt_add_one, Nat.le_refl, eq_self]
    · simp only [c_ref20_activate, k1, k2, k5, k6, k7, hq, hv, Pr.r, Int.natCast_nonneg, Int.toNat_natCast, List.getElem?_map, Option.map_some, progs_lo, lps_lo, ints_lo, procs_lo, evts_lo, keys_lo, Nat.reduceLT, Nat.reduceLeDiff, Go.Ev.runFunc, Go.Ev.exec, Go.Ev.evOpers, Go.Ev.evOper, Go.Ev.item_op, Go.Ev.item_P, Go.Ev.evOp, Go.Ev.evs, Go.Ev.Opnd.ev, Go.Ev.Env.get, Go.Ev.Env.set, Go.Ev.look, Go.Ev.argVars, Go.Ev.cellsAt, Go.Ev.loadC, Go.Ev.AV.cells, Go.Ev.AV.uc, Go.Ev.plains, Go.Ev.AV.plain, Go.Ev.resVals, Go.Ev.resVal, Go.Ev.resOf, Go.Ev.kill, Go.Ev.leave, Go.Ev.settle, Go.Ev.keep, Go.Ev.varsLo, Go.Ev.marksLo, Go.Ev.storeLo, Go.Ev.SObj.lo, Go.Ev.lo_v, Go.Ev.lo_agg, Go.Ev.lo_fsl, Go.Ev.lo_fptr, Go.Ev.lo_ptr, Go.Ev.los_nil, Go.Ev.los_cons, Go.Ev.loss_nil, Go.Ev.loss_cons, Go.Ev.frz_lo, ↓Go.Ev.obind, ↓Go.Ev.itL_itB, ↓reduceIte, List.length_cons, List.length_nil, List.getElem?_cons_zero, List.getElem?_cons_succ, List.take_succ_cons, List.take_zero, List.take_nil, List.drop_succ_cons, List.drop_zero, List.drop_nil, List.cons_append, List.nil_append, List.append_nil, List.set_cons_zero, List.set_cons_succ, List.head?_cons, Nat.reduceAdd, Nat.reduceEqDiff, Nat.reduceLT, Nat.reduceLeDiff, reduceCtorEq, decide_true, Bool.and_self, Bool.false_eq_true, and_self, ne_eq, not_false_eq_true, List.cons_ne_nil, Nat.zero_add, Nat.add_zero, Nat.lt_add_one, Nat.le_refl, eq_self]
end
end Go.Proofs.Ytdpeepljabbcfaa.K

namespace Go.Proofs.Ytdpeepljabbcfaa.K
open Go.Ev
set_option linter.unusedSimpArgs false
set_option linter.unusedVariables false
set_option maxRecDepth 10000
section
variable (c : Cfg) (x : Lp) (e : Evt)
theorem RExec_msg (hk : e.kind = 3) : callZ (evL T) n_ref20_Exec [(.agg [(.fsl ((c.lps).map lpC) false), (.fsl ((c.progs).map progC) false), (.v (.int .i64 (c.look))), (.v (.int .i64 (c.fin))), (.v (.int .i64 (c.cap)))]), (.agg [(.v (.int .i64 (x.r0))), (.v (.int .i64 (x.r1))), (.fsl ((x.procs).map Pr.r) false), (.v (.int .i64 (x.sum)))]), (.agg [(.v (.int .i64 (e.time))), (.fsl ((e.key).map intC) false), (.v (.int .i64 (e.lp))), (.v (.int .i64 (e.kind))), (.v (.int .i64 (e.proc))), (.v (.int .i64 (e.arg)))])] = some (.tup [(.agg [(.v (.int .i64 ((⟨x.r0, x.r1, x.procs, w64 (x.sum + e.arg)⟩ : Lp).r0))), (.v (.int .i64 ((⟨x.r0, x.r1, x.procs, w64 (x.sum + e.arg)⟩ : Lp).r1))), (.fsl (((⟨x.r0, x.r1, x.procs, w64 (x.sum + e.arg)⟩ : Lp).procs).map Pr.r) false), (.v (.int .i64 ((⟨x.r0, x.r1, x.procs, w64 (x.sum + e.arg)⟩ : Lp).sum)))]), .fsl [] true, .fsl [] true, (.v (.bool (false)))]) := by
  rw [callZ, evL_code ext_ref20_Exec code_ref20_Exec]
  simp only [c_ref20_Exec, hk, procs_lo, Nat.reduceLeDiff, Go.Ev.runFunc, Go.Ev.exec, Go.Ev.evOpers, Go.Ev.evOper, Go.Ev.item_op, Go.Ev.evOp, Go.Ev.Opnd.ev, Go.Ev.Env.get, Go.Ev.Env.set, Go.Ev.look, Go.Ev.argVars, Go.Ev.cellsAt, Go.Ev.loadC, Go.Ev.fillP, Go.Ev.AV.cells, Go.Ev.AV.uc, Go.Ev.plains, Go.Ev.AV.plain, Go.Ev.bin_add, Go.Ev.bin_eql, Go.Ev.resVals, Go.Ev.resVal, Go.Ev.resOf, Go.Ev.kill, Go.Ev.leave, Go.Ev.storeLo, Go.Ev.lo_v, Go.Ev.lo_agg, Go.Ev.lo_tup, Go.Ev.lo_fsl, Go.Ev.los_nil, Go.Ev.los_cons, Go.Ev.loss_nil, Go.Ev.frz_lo, ↓Go.Ev.obind, ↓reduceIte, List.length_cons, List.length_nil, List.getElem?_cons_zero, List.getElem?_cons_succ, List.take_succ_cons, List.take_zero, List.take_nil, List.drop_succ_cons, List.drop_zero, List.drop_nil, List.cons_append, List.nil_append, List.append_nil, List.set_cons_zero, List.set_cons_succ, List.head?_cons, Nat.reduceAdd, Nat.reduceEqDiff, Nat.reduceLeDiff, reduceCtorEq, decide_true, Bool.and_self, Bool.false_eq_true, and_self, ne_eq, not_false_eq_true, List.cons_ne_nil, Nat.zero_add, Nat.add_zero, Nat.le_refl, eq_self]
theorem RExec_none (hk : ¬ e.kind = 3) (ha : actsE x e = none) : callZ (evL T) n_ref20_Exec [(.agg [(.fsl ((c.lps).map lpC) false), (.fsl ((c.progs).map progC) false), (.v (.int .i64 (c.look))), (.v (.int .i64 (c.fin))), (.v (.int .i64 (c.cap)))]), (.agg [(.v (.int .i64 (x.r0))), (.v (.int .i64 (x.r1))), (.fsl ((x.procs).map Pr.r) false), (.v (.int .i64 (x.sum)))]), (.agg [(.v (.int .i64 (e.time))), (.fsl ((e.key).map intC) false), (.v (.int .i64 (e.lp))), (.v (.int .i64 (e.kind))), (.v (.int .i64 (e.proc))), (.v (.int .i64 (e.arg)))])] = some (.tup [(.agg [(.v (.int .i64 (x.r0))), (.v (.int .i64 (x.r1))), (.fsl ((x.procs).map Pr.r) false), (.v (.int .i64 (x.sum)))]), .fsl [] true, .fsl [] true, (.v (.bool (false)))]) := by
  rw [callZ, evL_code ext_ref20_Exec code_ref20_Exec]
  by_cases k1 : e.kind = 1
  case neg =>
    by_cases k2 : e.kind = 2
    case neg => simp only [c_ref20_Exec, hk, k1, k2, procs_lo, Nat.reduceLeDiff, Go.Ev.runFunc, Go.Ev.exec, Go.Ev.evOpers, Go.Ev.evOper, Go.Ev.item_op, Go.Ev.evOp, Go.Ev.Opnd.ev, Go.Ev.Env.get, Go.Ev.Env.set, Go.Ev.Env.unset, Go.Ev.look, Go.Ev.argVars, Go.Ev.cellsAt, Go.Ev.loadC, Go.Ev.fillP, Go.Ev.AV.cells, Go.Ev.plains, Go.Ev.AV.plain, Go.Ev.bin_eql, Go.Ev.bin_neq, Go.Ev.resVals, Go.Ev.resVal, Go.Ev.resOf, Go.Ev.kill, Go.Ev.leave, Go.Ev.storeLo, Go.Ev.lo_v, Go.Ev.lo_agg, Go.Ev.lo_tup, Go.Ev.lo_fsl, Go.Ev.los_nil, Go.Ev.los_cons, Go.Ev.loss_nil, Go.Ev.frz_lo, ↓Go.Ev.obind, ↓reduceIte, List.length_cons, List.length_nil, List.getElem?_cons_zero, List.getElem?_cons_succ, List.take_succ_cons, List.take_zero, List.take_nil, List.drop_succ_cons, List.drop_zero, List.drop_nil, List.cons_append, List.nil_append, List.append_nil, List.set_cons_zero, List.set_cons_succ, List.head?_cons, Nat.reduceAdd, Nat.reduceEqDiff, Nat.reduceLeDiff, reduceCtorEq, decide_true, decide_false, Bool.and_self, Bool.false_eq_true, Bool.true_eq_false, and_self, ne_eq, not_false_eq_true, List.cons_ne_nil, Nat.zero_add, Nat.le_refl, eq_self]
    by_cases h1 : e.proc < 0
    · simp only [c_ref20_Exec, k2, h1, procs_lo, Nat.reduceLeDiff, Go.Ev.runFunc, Go.Ev.exec, Go.Ev.evOpers, Go.Ev.evOper, Go.Ev.item_op, Go.Ev.evOp, Go.Ev.Opnd.ev, Go.Ev.Env.get, Go.Ev.Env.set, Go.Ev.Env.unset, Go.Ev.look, Go.Ev.argVars, Go.Ev.cellsAt, Go.Ev.loadC, Go.Ev.fillP, Go.Ev.AV.cells, Go.Ev.plains, Go.Ev.AV.plain, Go.Ev.bin_eql, Go.Ev.bin_neq, Go.Ev.bin_lss, Go.Ev.resVals, Go.Ev.resVal, Go.Ev.resOf, Go.Ev.kill, Go.Ev.leave, Go.Ev.storeLo, Go.Ev.lo_v, Go.Ev.lo_agg, Go.Ev.lo_tup, Go.Ev.lo_fsl, Go.Ev.los_nil, Go.Ev.los_cons, Go.Ev.loss_nil, Go.Ev.frz_lo, ↓Go.Ev.obind, ↓reduceIte, List.length_cons, List.length_nil, List.getElem?_cons_zero, List.getElem?_cons_succ, List.take_succ_cons, List.take_zero, List.take_nil, List.drop_succ_cons, List.drop_zero, List.drop_nil, List.cons_append, List.nil_append, List.append_nil, List.set_cons_zero, List.set_cons_succ, List.head?_cons, Nat.reduceAdd, Nat.reduceEqDiff, Nat.reduceLeDiff, Int.reduceEq, reduceCtorEq, decide_true, decide_false, Bool.and_self, Bool.false_eq_true, Bool.true_eq_false, and_self, ne_eq, not_false_eq_true, not_true_eq_false, List.cons_ne_nil, Nat.zero_add, Nat.le_refl, eq_self]
    by_cases h2 : e.proc ≥ (x.procs.length : Int)
    · simp only [c_ref20_Exec, k2, h1, h2, procs_lo, Nat.reduceLeDiff, Go.Ev.runFunc, Go.Ev.exec, Go.Ev.evOpers, Go.Ev.evOper, Go.Ev.item_op, Go.Ev.evOp, Go.Ev.Opnd.ev, Go.Ev.Env.get, Go.Ev.Env.set, Go.Ev.Env.unset, Go.Ev.look, Go.Ev.argVars, Go.Ev.cellsAt, Go.Ev.loadC, Go.Ev.fillP, Go.Ev.AV.cells, Go.Ev.plains, Go.Ev.AV.plain, Go.Ev.bin_eql, Go.Ev.bin_neq, Go.Ev.bin_lss, Go.Ev.bin_geq, Go.Ev.resVals, Go.Ev.resVal, Go.Ev.resOf, Go.Ev.kill, Go.Ev.leave, Go.Ev.storeLo, Go.Ev.lo_v, Go.Ev.lo_agg, Go.Ev.lo_tup, Go.Ev.lo_fsl, Go.Ev.los_nil, Go.Ev.los_cons, Go.Ev.loss_nil, Go.Ev.frz_lo, List.length_map, ↓Go.Ev.obind, ↓reduceIte, List.length_cons, List.length_nil, List.getElem?_cons_zero, List.getElem?_cons_succ, List.take_succ_cons, List.take_zero, List.take_nil, List.drop_succ_cons, List.drop_zero, List.drop_nil, List.cons_append, List.nil_append, List.append_nil, List.set_cons_zero, List.set_cons_succ, List.head?_cons, Nat.reduceAdd, Nat.reduceEqDiff, Nat.reduceLeDiff, Int.reduceEq, reduceCtorEq, decide_true, decide_false, Bool.and_self, Bool.false_eq_true, Bool.true_eq_false, and_self, ne_eq, not_false_eq_true, not_true_eq_false, List.cons_ne_nil, Nat.zero_add, Nat.le_refl, eq_self]
    obtain ⟨q, hq⟩ : ∃ q, x.procs[e.proc.toNat]? = some q := ⟨_, List.getElem?_eq_getElem (by omega)⟩
    have h0 : 0 ≤ e.proc := by omega
    have hal : q.alive = false := by
      unfold actsE at ha
      rw [if_pos ⟨.inr k2, h0⟩, hq] at ha
      cases h : q.alive with
      | false => rfl
      | true => simp [h] at ha
    simp only [c_ref20_Exec, k2, h0, h1, h2, hq, hal, List.getElem?_map, Option.map_some, Pr.r, procs_lo, Nat.reduceLeDiff, Go.Ev.runFunc, Go.Ev.exec, Go.Ev.evOpers, Go.Ev.evOper, Go.Ev.item_op, Go.Ev.evOp, Go.Ev.Opnd.ev, Go.Ev.Env.get, Go.Ev.Env.set, Go.Ev.look, Go.Ev.argVars, Go.Ev.cellsAt, Go.Ev.loadC, Go.Ev.fillP, Go.Ev.AV.cells, Go.Ev.plains, Go.Ev.AV.plain, Go.Ev.bin_eql, Go.Ev.bin_neq, Go.Ev.bin_lss, Go.Ev.bin_geq, Go.Ev.resVals, Go.Ev.resVal, Go.Ev.resOf, Go.Ev.kill, Go.Ev.leave, Go.Ev.storeLo, Go.Ev.lo_v, Go.Ev.lo_agg, Go.Ev.lo_tup, Go.Ev.lo_fsl, Go.Ev.los_nil, Go.Ev.los_cons, Go.Ev.loss_nil, Go.Ev.frz_lo, List.length_map, ↓Go.Ev.obind, ↓reduceIte, List.length_cons, List.length_nil, List.getElem?_cons_zero, List.getElem?_cons_succ, List.take_succ_cons, List.take_zero, List.take_nil, List.drop_succ_cons, List.drop_zero, List.drop_nil, List.cons_append, List.nil_append, List.append_nil, List.set_cons_zero, List.set_cons_succ, List.head?_cons, Nat.reduceAdd, Nat.reduceEqDiff, Nat.reduceLeDiff, Int.reduceEq, reduceCtorEq, decide_true, decide_false, Bool.and_self, Bool.not_false, Bool.false_eq_true, and_self, ne_eq, not_false_eq_true, not_true_eq_false, List.cons_ne_nil, Nat.zero_add, Nat.le_refl, eq_self]
  by_cases h1 : e.proc < 0
  · simp only [c_ref20_Exec, k1, h1, procs_lo, Nat.reduceLeDiff, Go.Ev.runFunc, Go.Ev.exec, Go.Ev.evOpers, Go.Ev.evOper, Go.Ev.item_op, Go.Ev.evOp, Go.Ev.Opnd.ev, Go.Ev.Env.get, Go.Ev.Env.set, Go.Ev.Env.unset, Go.Ev.look, Go.Ev.argVars, Go.Ev.cellsAt, Go.Ev.loadC, Go.Ev.fillP, Go.Ev.AV.cells, Go.Ev.plains, Go.Ev.AV.plain, Go.Ev.bin_eql, Go.Ev.bin_neq, Go.Ev.bin_lss, Go.Ev.resVals, Go.Ev.resVal, Go.Ev.resOf, Go.Ev.kill, Go.Ev.leave, Go.Ev.storeLo, Go.Ev.lo_v, Go.Ev.lo_agg, Go.Ev.lo_tup, Go.Ev.lo_fsl, Go.Ev.los_nil, Go.Ev.los_cons, Go.Ev.loss_nil, Go.Ev.frz_lo, ↓Go.Ev.obind, ↓reduceIte, List.length_cons, List.length_nil, List.getElem?_cons_zero, List.getElem?_cons_succ, List.take_succ_cons, List.take_zero, List.take_nil, List.drop_succ_cons, List.drop_zero, List.drop_nil, List.cons_append, List.nil_append, List.append_nil, List.set_cons_zero, List.set_cons_succ, List.head?_cons, Nat.reduceAdd, Nat.reduceEqDiff, Nat.reduceLeDiff, Int.reduceEq, reduceCtorEq, decide_true, decide_false, Bool.and_self, Bool.false_eq_true, Bool.true_eq_false, and_self, ne_eq, not_false_eq_true, not_true_eq_false, List.cons_ne_nil, Nat.zero_add, Nat.le_refl, eq_self]
  by_cases h2 : e.proc ≥ (x.procs.length : Int)
  · simp only [c_ref20_Exec, k1, h1, h2, procs_lo, Nat.reduceLeDiff, Go.Ev.runFunc, Go.Ev.exec, Go.Ev.evOpers, Go.Ev.evOper, Go.Ev.item_op, Go.Ev.evOp, Go.Ev.Opnd.ev, Go.Ev.Env.get, Go.Ev.Env.set, Go.Ev.Env.unset, Go.Ev.look, Go.Ev.argVars, Go.Ev.cellsAt, Go.Ev.loadC, Go.Ev.fillP, Go.Ev.AV.cells, Go.Ev.plains, Go.Ev.AV.plain, Go.Ev.bin_eql, Go.Ev.bin_neq, Go.Ev.bin_lss, Go.Ev.bin_geq, Go.Ev.resVals, Go.Ev.resVal, Go.Ev.resOf, Go.Ev.kill, Go.Ev.leave, Go.Ev.storeLo, Go.Ev.lo_v, Go.Ev.lo_agg, Go.Ev.lo_tup, Go.Ev.lo_fsl, Go.Ev.los_nil, Go.Ev.los_cons, Go.Ev.loss_nil, Go.Ev.frz_lo, List.length_map, ↓Go.Ev.obind, ↓reduceIte, List.length_cons, List.length_nil, List.getElem?_cons_zero, List.getElem?_cons_succ, List.take_succ_cons, List.take_zero, List.take_nil, List.drop_succ_cons, List.drop_zero, List.drop_nil, List.cons_append, List.nil_append, List.append_nil, List.set_cons_zero, List.set_cons_succ, List.head?_cons, Nat.reduceAdd, Nat.reduceEqDiff, Nat.reduceLeDiff, Int.reduceEq, reduceCtorEq, decide_true, decide_false, Bool.and_self, Bool.false_eq_true, Bool.true_eq_false, and_self, ne_eq, not_false_eq_true, not_true_eq_false, List.cons_ne_nil, Nat.zero_add, Nat.le_refl, eq_self]
  obtain ⟨q, hq⟩ : ∃ q, x.procs[e.proc.toNat]? = some q := ⟨_, List.getElem?_eq_getElem (by omega)⟩
  have h0 : 0 ≤ e.proc := by omega
  have hal : q.alive = false := by
    unfold actsE at ha
    rw [if_pos ⟨.inl k1, h0⟩, hq] at ha
    cases h : q.alive with
    | false => rfl
    | true => simp [h] at ha
  simp only [c_ref20_Exec, k1, h0, h1, h2, hq, hal, List.getElem?_map, Option.map_some, Pr.r, procs_lo, Nat.reduceLeDiff, Go.Ev.runFunc, Go.Ev.exec, Go.Ev.evOpers, Go.Ev.evOper, Go.Ev.item_op, Go.Ev.evOp, Go.Ev.Opnd.ev, Go.Ev.Env.get, Go.Ev.Env.set, Go.Ev.Env.unset, Go.Ev.look, Go.Ev.argVars, Go.Ev.cellsAt, Go.Ev.loadC, Go.Ev.fillP, Go.Ev.AV.cells, Go.Ev.plains, Go.Ev.AV.plain, Go.Ev.bin_eql, Go.Ev.bin_neq, Go.Ev.bin_lss, Go.Ev.bin_geq, Go.Ev.resVals, Go.Ev.resVal, Go.Ev.resOf, Go.Ev.kill, Go.Ev.leave, Go.Ev.storeLo, Go.Ev.lo_v, Go.Ev.lo_agg, Go.Ev.lo_tup, Go.Ev.lo_fsl, Go.Ev.los_nil, Go.Ev.los_cons, Go.Ev.loss_nil, Go.Ev.frz_lo, List.length_map, ↓Go.Ev.obind, ↓reduceIte, List.length_cons, List.length_nil, List.getElem?_cons_zero, List.getElem?_cons_succ, List.take_succ_cons, List.take_zero, List.take_nil, List.drop_succ_cons, List.drop_zero, List.drop_nil, List.cons_append, List.nil_append, List.append_nil, List.set_cons_zero, List.set_cons_succ, List.head?_cons, Nat.reduceAdd, Nat.reduceEqDiff, Nat.reduceLeDiff, Int.reduceEq, reduceCtorEq, decide_false, Bool.and_self, Bool.not_false, Bool.false_eq_true, and_self, ne_eq, not_false_eq_true, not_true_eq_false, List.cons_ne_nil, Nat.zero_add, Nat.le_refl, eq_self]
theorem RExec_run (h : ExecOk c x e) {q : Pr} (ha : actsE x e = some q) :
    callZ (evL T) n_ref20_Exec [(.agg [(.fsl ((c.lps).map lpC) false), (.fsl ((c.progs).map progC) false), (.v (.int .i64 (c.look))), (.v (.int .i64 (c.fin))), (.v (.int .i64 (c.cap)))]), (.agg [(.v (.int .i64 (x.r0))), (.v (.int .i64 (x.r1))), (.fsl ((x.procs).map Pr.r) false), (.v (.int .i64 (x.sum)))]), (.agg [(.v (.int .i64 (e.time))), (.fsl ((e.key).map intC) false), (.v (.int .i64 (e.lp))), (.v (.int .i64 (e.kind))), (.v (.int .i64 (e.proc))), (.v (.int .i64 (e.arg)))])] = some (.tup [(.agg [(.v (.int .i64 ((endE (runE c x e q)).r0))), (.v (.int .i64 ((endE (runE c x e q)).r1))), (.fsl (((endE (runE c x e q)).procs).map Pr.r) false), (.v (.int .i64 ((endE (runE c x e q)).sum)))]), (.fsl (((runE c x e q).out).map Evt.r) false), (.fsl (((runE c x e q).gone).map keyC) false), (.v (.bool ((runE c x e q).over)))]) := by
  unfold actsE at ha
  split at ha
  case isFalse => cases ha
  rename_i hc
  obtain ⟨hkind, h0⟩ := hc
  obtain ⟨i, hi⟩ : ∃ i : Nat, e.proc = i := ⟨_, (Int.toNat_of_nonneg h0).symm⟩
  have hin : e.proc.toNat = i := by omega
  rw [hin, Option.bind_eq_some_iff] at ha
  obtain ⟨q', hq, ha⟩ := ha
  split at ha
  case isFalse => cases ha
  rename_i hal
  cases ha
  have hlt := (List.getElem?_eq_some_iff.1 hq).1
  obtain ⟨p1, p2, p3, p4, p5⟩ := h.proc q (List.mem_of_getElem? hq)
  obtain ⟨p, hp⟩ : ∃ p, c.progs[q.prog.toNat]? = some p := ⟨_, List.getElem?_eq_getElem (by omega)⟩
  obtain ⟨pl, pok⟩ := h.prog p (List.mem_of_getElem? hp)
  have hinv := begin_inv c x e h hi hq
  have hxp : ∃ q', ((beginE x e).setP i (wakeE e q)).procs[i]? = some q' ∧ q'.prog = q.prog := ⟨wakeE e q, by simp only [Ex.setP, beginE]; rw [List.getElem?_set_self hlt], wake_prog e q⟩
  have hact := ref20_activate_ev c e i p q.prog h.key hi pl pok p1 hp ((beginE x e).setP i (wakeE e q)) hinv hxp
  have hrun : runE c x e q = actE p i 16 ((beginE x e).setP i (wakeE e q)) := by unfold runE; rw [hin, hp]; rfl
  rw [hrun]
  generalize actE p i 16 ((beginE x e).setP i (wakeE e q)) = F at hact
  have h1 : ¬ e.proc < 0 := by omega
  have h2 : ¬ e.proc ≥ (x.procs.length : Int) := by omega
  have h3 : ¬ e.kind = 3 := by omega
  rw [hi] at h0 h1 h2
  rw [callZ, evL_code ext_ref20_Exec code_ref20_Exec]
  rcases hkind with k1 | k2
  · have hwk : wakeE e q = q := by unfold wakeE; rw [if_neg (by omega)]
    have hss : x.procs.set i q = x.procs := by
      obtain ⟨hlt', hge⟩ := List.getElem?_eq_some_iff.1 hq
      rw [← hge, List.set_getElem_self]
    have k3 : ¬ (1 : Int) = 3 := by decide
    have k4 : ¬ (1 : Int) = 2 := by decide
    rw [hwk] at hact
    simp only [beginE, Ex.setP, hss, List.map_nil, hi, k1] at hact
    simp only [c_ref20_Exec, k1, k3, k4, h0, h1, h2, hi, hq, hal, hact, endE, Int.toNat_natCast, List.getElem?_map, Option.map_some, Pr.r, lps_lo, progs_lo, ints_lo, procs_lo, evts_lo, keys_lo, Nat.reduceLeDiff, Go.Ev.runFunc, Go.Ev.exec, Go.Ev.evOpers, Go.Ev.evOper, Go.Ev.item_op, Go.Ev.item_P, Go.Ev.evOp, Go.Ev.evs, Go.Ev.Opnd.ev, Go.Ev.Env.get, Go.Ev.Env.set, Go.Ev.Env.unset, Go.Ev.look, Go.Ev.argVars, Go.Ev.cellsAt, Go.Ev.loadC, Go.Ev.fillP, Go.Ev.AV.cells, Go.Ev.plains, Go.Ev.AV.plain, Go.Ev.bin_eql, Go.Ev.bin_neq, Go.Ev.bin_lss, Go.Ev.bin_geq, Go.Ev.resVals, Go.Ev.resVal, Go.Ev.resOf, Go.Ev.kill, Go.Ev.leave, Go.Ev.storeLo, Go.Ev.lo_v, Go.Ev.lo_agg, Go.Ev.lo_tup, Go.Ev.lo_fsl, Go.Ev.awayL, Go.Ev.AV.obj?, Go.Ev.los_nil, Go.Ev.los_cons, Go.Ev.loss_nil, Go.Ev.frz_lo, List.length_map, ↓Go.Ev.obind, ↓reduceIte, List.length_cons, List.length_nil, List.getElem?_cons_zero, List.getElem?_cons_succ, List.take_succ_cons, List.take_zero, List.take_nil, List.drop_succ_cons, List.drop_zero, List.drop_nil, List.cons_append, List.nil_append, List.append_nil, List.set_cons_zero, List.set_cons_succ, List.head?_cons, Nat.reduceAdd, Nat.reduceEqDiff, Nat.reduceBEq, Nat.reduceLeDiff, reduceCtorEq, decide_false, Bool.and_self, Bool.not_true, Bool.not_false, Bool.false_eq_true, and_self, ne_eq, not_false_eq_true, not_true_eq_false, List.cons_ne_nil, Nat.zero_add, Nat.add_zero, Nat.le_refl, eq_self]
    done
  · have k1 : ¬ (2 : Int) = 1 := by decide
    have k3 : ¬ (2 : Int) = 3 := by decide
    have hkl := h.key
    have hwk : wakeE e q = { q with pc := e.arg, timer := if q.timer = e.key then [] else q.timer } := by unfold wakeE; rw [if_pos k2]
    obtain ⟨qp, qpc, qa, qt⟩ := q
    dsimp only at *
    subst hal
    have heq := SameKey_ev qt e.key false false (by omega) (by omega)
    rw [hwk] at hact
    have hpt : ∀ q0 : Pr, callZ (evL T) n_ref20_put [(.agg [(.v (.int .i64 ((beginE x e).r0))), (.v (.int .i64 ((beginE x e).r1))), (.fsl (((beginE x e).procs).map Pr.r) false), (.v (.int .i64 ((beginE x e).sum))), (.v (.int .i64 ((beginE x e).ev.time))), (.fsl (((beginE x e).ev.key).map intC) false), (.v (.int .i64 ((beginE x e).ev.lp))), (.v (.int .i64 ((beginE x e).ev.kind))), (.v (.int .i64 ((beginE x e).ev.proc))), (.v (.int .i64 ((beginE x e).ev.arg))), (.fsl (((beginE x e).out).map Evt.r) false), (.fsl (((beginE x e).gone).map keyC) false), (.v (.int .i64 ((beginE x e).n))), (.v (.bool ((beginE x e).over)))]), (.v (.int .i64 (i))), (.agg [(.v (.int .i64 (q0.prog))), (.v (.int .i64 (q0.pc))), (.v (.bool (q0.alive))), (.fsl ((q0.timer).map intC) false)])] = some (.agg [(.v (.int .i64 (((beginE x e).setP i q0).r0))), (.v (.int .i64 (((beginE x e).setP i q0).r1))), (.fsl ((((beginE x e).setP i q0).procs).map Pr.r) false), (.v (.int .i64 (((beginE x e).setP i q0).sum))), (.v (.int .i64 (((beginE x e).setP i q0).ev.time))), (.fsl ((((beginE x e).setP i q0).ev.key).map intC) false), (.v (.int .i64 (((beginE x e).setP i q0).ev.lp))), (.v (.int .i64 (((beginE x e).setP i q0).ev.kind))), (.v (.int .i64 (((beginE x e).setP i q0).ev.proc))), (.v (.int .i64 (((beginE x e).setP i q0).ev.arg))), (.fsl ((((beginE x e).setP i q0).out).map Evt.r) false), (.fsl ((((beginE x e).setP i q0).gone).map keyC) false), (.v (.int .i64 (((beginE x e).setP i q0).n))), (.v (.bool (((beginE x e).setP i q0).over)))]) := fun q0 => ref20_put_ev (beginE x e) (by show x.procs.length ≤ 1000; have := h.procs; omega) i hlt q0
    by_cases ht : qt = e.key
    · have hp2 := hpt ⟨qp, e.arg, true, []⟩
      simp only [ht, if_true] at hact
      simp only [ht, decide_true] at heq
      simp only [beginE, Ex.setP, List.map_nil, hi, k2] at hact hp2
      by_cases hz : e.key = []
      · have z0 : ¬ (0 : Int) > 0 := by decide
        have hl0 : (([] : List Int).length : Int) = 0 := rfl
        rw [hz] at ht
        simp only [hz, List.map_nil] at hact hp2
        simp only [c_ref20_Exec, k1, k2, k3, h0, h1, h2, hi, hq, hz, z0, hp2, ht, hact, List.map_nil, List.length_nil, endE, Int.toNat_natCast, List.getElem?_map, Option.map_some, Pr.r, lps_lo, progs_lo, procs_lo, evts_lo, keys_lo, Nat.reduceLeDiff, Go.Ev.runFunc, Go.Ev.exec, Go.Ev.evOpers, Go.Ev.evOper, Go.Ev.item_op, Go.Ev.item_P, Go.Ev.evOp, Go.Ev.evs, Go.Ev.Opnd.ev, Go.Ev.Env.get, Go.Ev.Env.set, Go.Ev.Env.unset, Go.Ev.look, Go.Ev.argVars, Go.Ev.cellsAt, Go.Ev.loadC, Go.Ev.fillP, Go.Ev.AV.cells, Go.Ev.AV.uc, Go.Ev.plains, Go.Ev.AV.plain, Go.Ev.bin_eql, Go.Ev.bin_neq, Go.Ev.bin_lss, Go.Ev.bin_gtr, Go.Ev.bin_geq, Go.Ev.resVals, Go.Ev.resVal, Go.Ev.resOf, Go.Ev.kill, Go.Ev.leave, Go.Ev.storeLo, Go.Ev.lo_v, Go.Ev.lo_agg, Go.Ev.lo_tup, Go.Ev.lo_fsl, Go.Ev.awayL, Go.Ev.AV.obj?, Go.Ev.los_nil, Go.Ev.los_cons, Go.Ev.loss_nil, Go.Ev.frz_lo, List.length_map, ↓Go.Ev.obind, ↓reduceIte, List.length_cons, List.length_nil, List.getElem?_cons_zero, List.getElem?_cons_succ, List.take_succ_cons, List.take_zero, List.take_nil, List.drop_succ_cons, List.drop_zero, List.drop_nil, List.cons_append, List.nil_append, List.append_nil, List.set_cons_zero, List.set_cons_succ, List.head?_cons, Nat.reduceAdd, Nat.reduceEqDiff, Nat.reduceBEq, Nat.reduceLeDiff, Int.cast_ofNat_Int, reduceCtorEq, decide_true, decide_false, Bool.and_self, Bool.not_true, Bool.not_false, Bool.false_eq_true, and_self, ne_eq, not_false_eq_true, not_true_eq_false, List.cons_ne_nil, Nat.zero_add, Nat.add_zero, Nat.le_refl, eq_self]
        done
      · have hz' : (e.key.length : Int) > 0 := by have := List.length_pos_iff.2 hz; omega
        simp only [c_ref20_Exec, k1, k2, k3, h0, h1, h2, hi, hq, hz', heq, hp2, ht, hact, endE, Int.toNat_natCast, List.getElem?_map, Option.map_some, Pr.r, lps_lo, progs_lo, ints_lo, procs_lo, evts_lo, keys_lo, Nat.reduceLeDiff, Go.Ev.runFunc, Go.Ev.exec, Go.Ev.evOpers, Go.Ev.evOper, Go.Ev.item_op, Go.Ev.item_P, Go.Ev.evOp, Go.Ev.evs, Go.Ev.Opnd.ev, Go.Ev.Env.get, Go.Ev.Env.set, Go.Ev.look, Go.Ev.argVars, Go.Ev.cellsAt, Go.Ev.loadC, Go.Ev.fillP, Go.Ev.AV.cells, Go.Ev.AV.uc, Go.Ev.plains, Go.Ev.AV.plain, Go.Ev.bin_eql, Go.Ev.bin_neq, Go.Ev.bin_lss, Go.Ev.bin_gtr, Go.Ev.bin_geq, Go.Ev.resVals, Go.Ev.resVal, Go.Ev.resOf, Go.Ev.kill, Go.Ev.leave, Go.Ev.storeLo, Go.Ev.lo_v, Go.Ev.lo_agg, Go.Ev.lo_tup, Go.Ev.lo_fsl, Go.Ev.awayL, Go.Ev.AV.obj?, Go.Ev.los_nil, Go.Ev.los_cons, Go.Ev.loss_nil, Go.Ev.frz_lo, List.length_map, ↓Go.Ev.obind, ↓reduceIte, List.length_cons, List.length_nil, List.getElem?_cons_zero, List.getElem?_cons_succ, List.take_succ_cons, List.take_zero, List.take_nil, List.drop_succ_cons, List.drop_zero, List.drop_nil, List.cons_append, List.nil_append, List.append_nil, List.set_cons_zero, List.set_cons_succ, List.head?_cons, Nat.reduceAdd, Nat.reduceEqDiff, Nat.reduceBEq, Nat.reduceLeDiff, reduceCtorEq, decide_true, decide_false, Bool.and_self, Bool.not_true, Bool.not_false, Bool.false_eq_true, and_self, ne_eq, not_false_eq_true, not_true_eq_false, List.cons_ne_nil, Nat.zero_add, Nat.add_zero, Nat.le_refl, eq_self]
        done
    · have hp2 := hpt ⟨qp, e.arg, true, qt⟩
      simp only [ht, if_false] at hact
      simp only [ht, decide_false] at heq
      simp only [beginE, Ex.setP, List.map_nil, hi, k2] at hact hp2
      by_cases hz : (qt.length : Int) > 0
      · simp only [c_ref20_Exec, k1, k2, k3, h0, h1, h2, hi, hq, hz, heq, hp2, hact, endE, Int.toNat_natCast, List.getElem?_map, Option.map_some, Pr.r, lps_lo, progs_lo, ints_lo, procs_lo, evts_lo, keys_lo, Nat.reduceLeDiff, Go.Ev.runFunc, Go.Ev.exec, Go.Ev.evOpers, Go.Ev.evOper, Go.Ev.item_op, Go.Ev.item_P, Go.Ev.evOp, Go.Ev.evs, Go.Ev.Opnd.ev, Go.Ev.Env.get, Go.Ev.Env.set, Go.Ev.look, Go.Ev.argVars, Go.Ev.cellsAt, Go.Ev.loadC, Go.Ev.fillP, Go.Ev.AV.cells, Go.Ev.AV.uc, Go.Ev.plains, Go.Ev.AV.plain, Go.Ev.bin_eql, Go.Ev.bin_neq, Go.Ev.bin_lss, Go.Ev.bin_gtr, Go.Ev.bin_geq, Go.Ev.resVals, Go.Ev.resVal, Go.Ev.resOf, Go.Ev.kill, Go.Ev.leave, Go.Ev.storeLo, Go.Ev.lo_v, Go.Ev.lo_agg, Go.Ev.lo_tup, Go.Ev.lo_fsl, Go.Ev.awayL, Go.Ev.AV.obj?, Go.Ev.los_nil, Go.Ev.los_cons, Go.Ev.loss_nil, Go.Ev.frz_lo, List.length_map, ↓Go.Ev.obind, ↓reduceIte, List.length_cons, List.length_nil, List.getElem?_cons_zero, List.getElem?_cons_succ, List.take_succ_cons, List.take_zero, List.take_nil, List.drop_succ_cons, List.drop_zero, List.drop_nil, List.cons_append, List.nil_append, List.append_nil, List.set_cons_zero, List.set_cons_succ, List.head?_cons, Nat.reduceAdd, Nat.reduceEqDiff, Nat.reduceBEq, Nat.reduceLeDiff, reduceCtorEq, decide_true, decide_false, Bool.and_self, Bool.not_true, Bool.not_false, Bool.false_eq_true, and_self, ne_eq, not_false_eq_true, not_true_eq_false, List.cons_ne_nil, Nat.zero_add, Nat.add_zero, Nat.le_refl, eq_self]
        done
      · simp only [c_ref20_Exec, k1, k2, k3, h0, h1, h2, hi, hq, hz, hp2, hact, endE, Int.toNat_natCast, List.getElem?_map, Option.map_some, Pr.r, lps_lo, progs_lo, ints_lo, procs_lo, evts_lo, keys_lo, Nat.reduceLeDiff, Go.Ev.runFunc, Go.Ev.exec, Go.Ev.evOpers, Go.Ev.evOper, Go.Ev.item_op, Go.Ev.item_P, Go.Ev.evOp, Go.Ev.evs, Go.Ev.Opnd.ev, Go.Ev.Env.get, Go.Ev.Env.set, Go.Ev.Env.unset, Go.Ev.look, Go.Ev.argVars, Go.Ev.cellsAt, Go.Ev.loadC, Go.Ev.fillP, Go.Ev.AV.cells, Go.Ev.AV.uc, Go.Ev.plains, Go.Ev.AV.plain, Go.Ev.bin_eql, Go.Ev.bin_neq, Go.Ev.bin_lss, Go.Ev.bin_gtr, Go.Ev.bin_geq, Go.Ev.resVals, Go.Ev.resVal, Go.Ev.resOf, Go.Ev.kill, Go.Ev.leave, Go.Ev.storeLo, Go.Ev.lo_v, Go.Ev.lo_agg, Go.Ev.lo_tup, Go.Ev.lo_fsl, Go.Ev.awayL, Go.Ev.AV.obj?, Go.Ev.los_nil, Go.Ev.los_cons, Go.Ev.loss_nil, Go.Ev.frz_lo, List.length_map, ↓Go.Ev.obind, ↓reduceIte, List.length_cons, List.length_nil, List.getElem?_cons_zero, List.getElem?_cons_succ, List.take_succ_cons, List.take_zero, List.take_nil, List.drop_succ_cons, List.drop_zero, List.drop_nil, List.cons_append, List.nil_append, List.append_nil, List.set_cons_zero, List.set_cons_succ, List.head?_cons, Nat.reduceAdd, Nat.reduceEqDiff, Nat.reduceBEq, Nat.reduceLeDiff, reduceCtorEq, decide_true, decide_false, Bool.and_self, Bool.not_true, Bool.not_false, Bool.false_eq_true, and_self, ne_eq, not_false_eq_true, not_true_eq_false, List.cons_ne_nil, Nat.zero_add, Nat.add_zero, Nat.le_refl, eq_self]
        done
end
end Go.Proofs.Ytdpeepljabbcfaa.K
