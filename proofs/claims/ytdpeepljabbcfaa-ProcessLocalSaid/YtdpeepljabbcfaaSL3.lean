/- Part of the proofs about this seat's program (module SL3). -/
import Derived.Test.YtdpeepljabbcfaaSHead
import Derived.Test.YtdpeepljabbcfaaCRuns
set_option linter.unusedSectionVars false
set_option linter.unusedSimpArgs false
set_option linter.unusedVariables false
namespace Go.Proofs.Ytdpeepljabbcfaa.K
open Go.Ev
set_option linter.unusedSimpArgs false
set_option linter.unusedVariables false
set_option maxRecDepth 10000
section
variable (c : Cfg) (x y : Lp) (e : Evt) (out : List Evt) (gone : List (List Int)) (over nl : Bool)
theorem local_loop1 (X : Ex) (hX : X.procs = y.procs) (ho : ∀ k ev, out[k]? = some ev → EvOk c e X k ev) (hl : out.length ≤ 16) :
    ∃ z, itB (exec (evL T) itL none c_law20_ProcessLocal_L1) (Ev.settle [3, 7, 8, 9, 10, 11, 12, 13, 14] true 3) ⟨[(3, (.fptr [(.fsl ((c.lps).map lpC) false), (.fsl ((c.progs).map progC) false), (.v (.int .i64 (c.look))), (.v (.int .i64 (c.fin))), (.v (.int .i64 (c.cap)))])), (7, (.v (.bool (true)))), (8, .ptr 0 0 0 0), (9, .ptr 1 0 0 0), (10, .ptr 2 0 0 0), (11, (.fsl ((out).map Evt.r) nl)), (12, (.fsl ((gone).map keyC) nl)), (13, (.v (.bool (over)))), (14, (.v (.int .i64 (0))))], []⟩ [.row 4 [[(.v (.int .i64 (x.r0))), (.v (.int .i64 (x.r1))), (.fsl ((x.procs).map Pr.r) false), (.v (.int .i64 (x.sum)))]] 0, .row 6 [[(.v (.int .i64 (e.time))), (.fsl ((e.key).map intC) false), (.v (.int .i64 (e.lp))), (.v (.int .i64 (e.kind))), (.v (.int .i64 (e.proc))), (.v (.int .i64 (e.arg)))]] 0, .row 4 [[(.v (.int .i64 (y.r0))), (.v (.int .i64 (y.r1))), (.fsl ((y.procs).map Pr.r) false), (.v (.int .i64 (y.sum)))]] 0] = some z ∧ (z.1 = .exit 0 ∧ z.2.1.marks = [] ∧ z.2.2 = [.row 4 [[(.v (.int .i64 (x.r0))), (.v (.int .i64 (x.r1))), (.fsl ((x.procs).map Pr.r) false), (.v (.int .i64 (x.sum)))]] 0, .row 6 [[(.v (.int .i64 (e.time))), (.fsl ((e.key).map intC) false), (.v (.int .i64 (e.lp))), (.v (.int .i64 (e.kind))), (.v (.int .i64 (e.proc))), (.v (.int .i64 (e.arg)))]] 0, .row 4 [[(.v (.int .i64 (y.r0))), (.v (.int .i64 (y.r1))), (.fsl ((y.procs).map Pr.r) false), (.v (.int .i64 (y.sum)))]] 0] ∧ Ev.look z.2.1.vars 7 = some (.v (.bool (true))) ∧ Ev.look z.2.1.vars 8 = some (.ptr 0 0 0 0) ∧ Ev.look z.2.1.vars 9 = some (.ptr 1 0 0 0) ∧ Ev.look z.2.1.vars 11 = some (.fsl ((out).map Evt.r) nl) ∧ Ev.look z.2.1.vars 12 = some (.fsl ((gone).map keyC) nl) ∧ Ev.look z.2.1.vars 13 = some (.v (.bool (over)))) := by
  refine itB_each out (fun i => ⟨[(3, (.fptr [(.fsl ((c.lps).map lpC) false), (.fsl ((c.progs).map progC) false), (.v (.int .i64 (c.look))), (.v (.int .i64 (c.fin))), (.v (.int .i64 (c.cap)))])), (7, (.v (.bool (true)))), (8, .ptr 0 0 0 0), (9, .ptr 1 0 0 0), (10, .ptr 2 0 0 0), (11, (.fsl ((out).map Evt.r) nl)), (12, (.fsl ((gone).map keyC) nl)), (13, (.v (.bool (over)))), (14, (.v (.int .i64 (i))))], []⟩) [.row 4 [[(.v (.int .i64 (x.r0))), (.v (.int .i64 (x.r1))), (.fsl ((x.procs).map Pr.r) false), (.v (.int .i64 (x.sum)))]] 0, .row 6 [[(.v (.int .i64 (e.time))), (.fsl ((e.key).map intC) false), (.v (.int .i64 (e.lp))), (.v (.int .i64 (e.kind))), (.v (.int .i64 (e.proc))), (.v (.int .i64 (e.arg)))]] 0, .row 4 [[(.v (.int .i64 (y.r0))), (.v (.int .i64 (y.r1))), (.fsl ((y.procs).map Pr.r) false), (.v (.int .i64 (y.sum)))]] 0] (fun z => _) ?_ ?_
  · intro i ev hi hx
    have hi' : (i : Int) < (out.length : Int) := by omega
    have hw : IntKind.i64.wrap ((i : Int) + 1) = ((i + 1 : Nat) : Int) := by rw [w64_small (by omega) (by omega)]; simp
    obtain ⟨_, _, hmsg, hown⟩ := ho i ev hx
    by_cases h3 : ev.kind = 3
    · obtain ⟨s1, s2, s3, s4⟩ := hmsg h3
      have g1 : ¬ ev.lp < 0 := by omega
      have g2 : ¬ ev.lp ≥ (c.lps.length : Int) := by omega
      simp only [c_law20_ProcessLocal_L1, Int.natCast_nonneg, Int.toNat_natCast, List.getElem?_map, Option.map_some, hx, hi', hw, h3, g1, g2, Evt.r, lps_lo, progs_lo, ints_lo, procs_lo, evts_lo, keys_lo, Nat.reduceLT, Go.Ev.exec, Go.Ev.evOpers, Go.Ev.evOper, Go.Ev.item_op, Go.Ev.evOp, Go.Ev.Opnd.ev, Go.Ev.Env.get, Go.Ev.Env.set, Go.Ev.look, Go.Ev.cellsAt, Go.Ev.loadC, Go.Ev.bin_add, Go.Ev.bin_eql, Go.Ev.bin_lss, Go.Ev.bin_geq, Go.Ev.settle, Go.Ev.keep, Go.Ev.varsLo, Go.Ev.marksLo, Go.Ev.storeLo, Go.Ev.SObj.lo, Go.Ev.lo_v, Go.Ev.lo_fsl, Go.Ev.lo_fptr, Go.Ev.lo_ptr, Go.Ev.los_nil, Go.Ev.los_cons, Go.Ev.loss_nil, Go.Ev.loss_cons, List.length_map, ↓Go.Ev.obind, Go.Ev.it1, ↓reduceIte, List.length_cons, List.length_nil, List.take_succ_cons, List.take_nil, List.drop_succ_cons, List.drop_zero, List.head?_cons, Nat.reduceAdd, Nat.reduceEqDiff, Nat.reduceLT, decide_true, decide_false, Bool.and_self, Bool.false_eq_true, and_self, Nat.zero_add, Nat.lt_add_one, eq_self]
    · obtain ⟨s1, s2, s3, s4⟩ := hown h3
      rw [hX] at s3
      have g1 : ¬ ev.proc < 0 := by omega
      have g2 : ¬ ev.proc ≥ (y.procs.length : Int) := by omega
      rcases s4 with s4 | s4
      · have n3 : ¬ (1 : Int) = 3 := by decide
        simp only [c_law20_ProcessLocal_L1, Int.natCast_nonneg, Int.toNat_natCast, List.getElem?_map, Option.map_some, hx, hi', hw, n3, s1, s4, g1, g2, Evt.r, lps_lo, progs_lo, ints_lo, procs_lo, evts_lo, keys_lo, Nat.reduceLT, Go.Ev.exec, Go.Ev.evOpers, Go.Ev.evOper, Go.Ev.item_op, Go.Ev.evOp, Go.Ev.Opnd.ev, Go.Ev.Env.get, Go.Ev.Env.set, Go.Ev.Env.unset, Go.Ev.look, Go.Ev.cellsAt, Go.Ev.loadC, Go.Ev.bin_add, Go.Ev.bin_eql, Go.Ev.bin_neq, Go.Ev.bin_lss, Go.Ev.bin_geq, Go.Ev.settle, Go.Ev.keep, Go.Ev.varsLo, Go.Ev.marksLo, Go.Ev.storeLo, Go.Ev.SObj.lo, Go.Ev.lo_v, Go.Ev.lo_fsl, Go.Ev.lo_fptr, Go.Ev.lo_ptr, Go.Ev.los_nil, Go.Ev.los_cons, Go.Ev.loss_nil, Go.Ev.loss_cons, List.length_map, ↓Go.Ev.obind, Go.Ev.it1, ↓reduceIte, List.length_cons, List.length_nil, List.getElem?_cons_zero, List.getElem?_cons_succ, List.take_succ_cons, List.take_nil, List.drop_succ_cons, List.drop_zero, List.head?_cons, Nat.reduceAdd, Nat.reduceEqDiff, Nat.reduceLT, decide_true, decide_false, Bool.and_self, Bool.false_eq_true, and_self, ne_eq, not_true_eq_false, Nat.zero_add, Nat.lt_add_one, eq_self]
      · have n3 : ¬ (2 : Int) = 3 := by decide
        have n1 : ¬ (2 : Int) = 1 := by decide
        simp only [c_law20_ProcessLocal_L1, Int.natCast_nonneg, Int.toNat_natCast, List.getElem?_map, Option.map_some, hx, hi', hw, n1, n3, s1, s4, g1, g2, Evt.r, lps_lo, progs_lo, ints_lo, procs_lo, evts_lo, keys_lo, Nat.reduceLT, Go.Ev.exec, Go.Ev.evOpers, Go.Ev.evOper, Go.Ev.item_op, Go.Ev.evOp, Go.Ev.Opnd.ev, Go.Ev.Env.get, Go.Ev.Env.set, Go.Ev.look, Go.Ev.cellsAt, Go.Ev.loadC, Go.Ev.bin_add, Go.Ev.bin_eql, Go.Ev.bin_neq, Go.Ev.bin_lss, Go.Ev.bin_geq, Go.Ev.settle, Go.Ev.keep, Go.Ev.varsLo, Go.Ev.marksLo, Go.Ev.storeLo, Go.Ev.SObj.lo, Go.Ev.lo_v, Go.Ev.lo_fsl, Go.Ev.lo_fptr, Go.Ev.lo_ptr, Go.Ev.los_nil, Go.Ev.los_cons, Go.Ev.loss_nil, Go.Ev.loss_cons, List.length_map, ↓Go.Ev.obind, Go.Ev.it1, ↓reduceIte, List.length_cons, List.length_nil, List.getElem?_cons_zero, List.getElem?_cons_succ, List.take_succ_cons, List.take_nil, List.drop_succ_cons, List.drop_zero, List.head?_cons, Nat.reduceAdd, Nat.reduceEqDiff, Nat.reduceLT, decide_true, decide_false, Bool.and_self, Bool.false_eq_true, and_self, ne_eq, not_false_eq_true, not_true_eq_false, Nat.zero_add, Nat.lt_add_one, eq_self]
  · simp only [c_law20_ProcessLocal_L1, Int.lt_irrefl, Go.Ev.exec, Go.Ev.evOpers, Go.Ev.evOper, Go.Ev.item_op, Go.Ev.evOp, Go.Ev.Opnd.ev, Go.Ev.Env.get, Go.Ev.Env.set, Go.Ev.look, Go.Ev.bin_lss, List.length_map, ↓Go.Ev.obind, Go.Ev.it1, ↓reduceIte, Nat.reduceEqDiff, decide_false, Bool.false_eq_true, eq_self]
    exact ⟨_, rfl, rfl, rfl, rfl, rfl, rfl, rfl, rfl, rfl, rfl⟩
def hasK (g : List Int) (ev : Evt) : Bool := decide (ev.kind = 2) && decide (ev.key = g)
theorem local_loop3 (i : Nat) (g : List Int) (a : Bool) (hg : gone[i]? = some g) (hgl : g.length ≤ 100) (hl : out.length ≤ 16) (hkl : ∀ ev ∈ out, ev.key.length ≤ 100) :
    ∃ z, itB (exec (evL T) itL none c_law20_ProcessLocal_L3) (Ev.settle [7, 8, 9, 11, 12, 13, 15, 16, 17] true 3) ⟨[(7, (.v (.bool (true)))), (8, .ptr 0 0 0 0), (9, .ptr 1 0 0 0), (11, (.fsl ((out).map Evt.r) nl)), (12, (.fsl ((gone).map keyC) nl)), (13, (.v (.bool (over)))), (15, (.v (.int .i64 (i)))), (16, (.v (.bool (a)))), (17, (.v (.int .i64 (0))))], []⟩ [.row 4 [[(.v (.int .i64 (x.r0))), (.v (.int .i64 (x.r1))), (.fsl ((x.procs).map Pr.r) false), (.v (.int .i64 (x.sum)))]] 0, .row 6 [[(.v (.int .i64 (e.time))), (.fsl ((e.key).map intC) false), (.v (.int .i64 (e.lp))), (.v (.int .i64 (e.kind))), (.v (.int .i64 (e.proc))), (.v (.int .i64 (e.arg)))]] 0, .row 4 [[(.v (.int .i64 (y.r0))), (.v (.int .i64 (y.r1))), (.fsl ((y.procs).map Pr.r) false), (.v (.int .i64 (y.sum)))]] 0] = some z ∧ (z.1 = .exit 4 ∧ z.2.1.marks = [] ∧ z.2.2 = [.row 4 [[(.v (.int .i64 (x.r0))), (.v (.int .i64 (x.r1))), (.fsl ((x.procs).map Pr.r) false), (.v (.int .i64 (x.sum)))]] 0, .row 6 [[(.v (.int .i64 (e.time))), (.fsl ((e.key).map intC) false), (.v (.int .i64 (e.lp))), (.v (.int .i64 (e.kind))), (.v (.int .i64 (e.proc))), (.v (.int .i64 (e.arg)))]] 0, .row 4 [[(.v (.int .i64 (y.r0))), (.v (.int .i64 (y.r1))), (.fsl ((y.procs).map Pr.r) false), (.v (.int .i64 (y.sum)))]] 0] ∧ Ev.look z.2.1.vars 7 = some (.v (.bool (true))) ∧ Ev.look z.2.1.vars 8 = some (.ptr 0 0 0 0) ∧ Ev.look z.2.1.vars 9 = some (.ptr 1 0 0 0) ∧ Ev.look z.2.1.vars 11 = some (.fsl ((out).map Evt.r) nl) ∧ Ev.look z.2.1.vars 12 = some (.fsl ((gone).map keyC) nl) ∧ Ev.look z.2.1.vars 13 = some (.v (.bool (over))) ∧ Ev.look z.2.1.vars 15 = some (.v (.int .i64 (i))) ∧ Ev.look z.2.1.vars 16 = some (.v (.bool ((a || out.any (hasK g)))))) := by
  have := itB_for (f := exec (evL T) itL none c_law20_ProcessLocal_L3) (s := Ev.settle [7, 8, 9, 11, 12, 13, 15, 16, 17] true 3) (α := Bool) (fun k b => ⟨[(7, (.v (.bool (true)))), (8, .ptr 0 0 0 0), (9, .ptr 1 0 0 0), (11, (.fsl ((out).map Evt.r) nl)), (12, (.fsl ((gone).map keyC) nl)), (13, (.v (.bool (over)))), (15, (.v (.int .i64 (i)))), (16, (.v (.bool (b)))), (17, (.v (.int .i64 ((k : Int)))))], []⟩) (fun _ _ => [.row 4 [[(.v (.int .i64 (x.r0))), (.v (.int .i64 (x.r1))), (.fsl ((x.procs).map Pr.r) false), (.v (.int .i64 (x.sum)))]] 0, .row 6 [[(.v (.int .i64 (e.time))), (.fsl ((e.key).map intC) false), (.v (.int .i64 (e.lp))), (.v (.int .i64 (e.kind))), (.v (.int .i64 (e.proc))), (.v (.int .i64 (e.arg)))]] 0, .row 4 [[(.v (.int .i64 (y.r0))), (.v (.int .i64 (y.r1))), (.fsl ((y.procs).map Pr.r) false), (.v (.int .i64 (y.sum)))]] 0]) (fun k b => b = (a || (out.take k).any (hasK g))) out.length
    (fun z => z.1 = .exit 4 ∧ z.2.1.marks = [] ∧ z.2.2 = [.row 4 [[(.v (.int .i64 (x.r0))), (.v (.int .i64 (x.r1))), (.fsl ((x.procs).map Pr.r) false), (.v (.int .i64 (x.sum)))]] 0, .row 6 [[(.v (.int .i64 (e.time))), (.fsl ((e.key).map intC) false), (.v (.int .i64 (e.lp))), (.v (.int .i64 (e.kind))), (.v (.int .i64 (e.proc))), (.v (.int .i64 (e.arg)))]] 0, .row 4 [[(.v (.int .i64 (y.r0))), (.v (.int .i64 (y.r1))), (.fsl ((y.procs).map Pr.r) false), (.v (.int .i64 (y.sum)))]] 0] ∧ Ev.look z.2.1.vars 7 = some (.v (.bool (true))) ∧ Ev.look z.2.1.vars 8 = some (.ptr 0 0 0 0) ∧ Ev.look z.2.1.vars 9 = some (.ptr 1 0 0 0) ∧ Ev.look z.2.1.vars 11 = some (.fsl ((out).map Evt.r) nl) ∧ Ev.look z.2.1.vars 12 = some (.fsl ((gone).map keyC) nl) ∧ Ev.look z.2.1.vars 13 = some (.v (.bool (over))) ∧ Ev.look z.2.1.vars 15 = some (.v (.int .i64 (i))) ∧ Ev.look z.2.1.vars 16 = some (.v (.bool ((a || out.any (hasK g)))))) ?_ ?_ 0 a (Nat.zero_le _) (by simp)
  · exact this
  · rintro k b hk hb
    have hk' : (k : Int) < (out.length : Int) := by omega
    have hw : IntKind.i64.wrap ((k : Int) + 1) = ((k + 1 : Nat) : Int) := by rw [w64_small (by omega) (by omega)]; simp
    obtain ⟨ev, hx⟩ : ∃ ev, out[k]? = some ev := ⟨_, List.getElem?_eq_getElem hk⟩
    have hn : (a || (out.take (k + 1)).any (hasK g)) = (b || hasK g ev) := by rw [hb, take_next hx, List.any_append, Bool.or_assoc]; simp
    refine .inl ⟨b || hasK g ev, ?_, hn.symm⟩
    have hv := SameKey_ev ev.key g false false (by have := hkl ev (List.mem_of_getElem? hx); omega) (by omega)
    cases b with
    | true => simp only [c_law20_ProcessLocal_L3, hk', hw, Bool.true_or, ints_lo, procs_lo, evts_lo, keys_lo, Nat.reduceLT, Go.Ev.exec, Go.Ev.evOpers, Go.Ev.evOper, Go.Ev.item_op, Go.Ev.evOp, Go.Ev.Opnd.ev, Go.Ev.Env.get, Go.Ev.Env.set, Go.Ev.Env.unset, Go.Ev.look, Go.Ev.bin_add, Go.Ev.bin_lss, Go.Ev.settle, Go.Ev.keep, Go.Ev.varsLo, Go.Ev.marksLo, Go.Ev.storeLo, Go.Ev.SObj.lo, Go.Ev.lo_v, Go.Ev.lo_fsl, Go.Ev.lo_ptr, Go.Ev.los_nil, Go.Ev.los_cons, Go.Ev.loss_nil, Go.Ev.loss_cons, List.length_map, ↓Go.Ev.obind, Go.Ev.it1, ↓reduceIte, List.take_succ_cons, List.take_nil, Nat.reduceEqDiff, Nat.reduceLT, decide_true, Bool.and_self, Bool.true_or, Bool.true_eq_false, and_self, eq_self]
    | false =>
      by_cases h2 : ev.kind = 2
      · simp only [c_law20_ProcessLocal_L3, Int.natCast_nonneg, Int.toNat_natCast, List.getElem?_map, Option.map_some, hx, hg, hk', hw, hv, h2, hasK, keyC, Evt.r, decide_true, Bool.true_and, Bool.false_or, ints_lo, procs_lo, evts_lo, keys_lo, Nat.reduceLT, Go.Ev.exec, Go.Ev.evOpers, Go.Ev.evOper, Go.Ev.item_op, Go.Ev.item_P, Go.Ev.evOp, Go.Ev.evs, Go.Ev.Opnd.ev, Go.Ev.Env.get, Go.Ev.Env.set, Go.Ev.look, Go.Ev.cellsAt, Go.Ev.loadC, Go.Ev.bin_add, Go.Ev.bin_eql, Go.Ev.bin_lss, Go.Ev.settle, Go.Ev.keep, Go.Ev.varsLo, Go.Ev.marksLo, Go.Ev.storeLo, Go.Ev.SObj.lo, Go.Ev.lo_v, Go.Ev.lo_fsl, Go.Ev.lo_ptr, Go.Ev.los_nil, Go.Ev.los_cons, Go.Ev.loss_nil, Go.Ev.loss_cons, List.length_map, ↓Go.Ev.obind, Go.Ev.it1, ↓reduceIte, List.length_cons, List.length_nil, List.take_succ_cons, List.take_nil, List.drop_succ_cons, List.drop_zero, List.head?_cons, Nat.reduceAdd, Nat.reduceEqDiff, Nat.reduceLT, decide_true, Bool.and_self, Bool.true_and, Bool.false_or, Bool.false_eq_true, and_self, Nat.zero_add, eq_self]
      · simp only [c_law20_ProcessLocal_L3, Int.natCast_nonneg, Int.toNat_natCast, List.getElem?_map, Option.map_some, hx, hk', hw, h2, hasK, Evt.r, decide_false, Bool.false_and, ints_lo, procs_lo, evts_lo, keys_lo, Nat.reduceLT, Go.Ev.exec, Go.Ev.evOpers, Go.Ev.evOper, Go.Ev.item_op, Go.Ev.evOp, Go.Ev.Opnd.ev, Go.Ev.Env.get, Go.Ev.Env.set, Go.Ev.Env.unset, Go.Ev.look, Go.Ev.cellsAt, Go.Ev.loadC, Go.Ev.bin_add, Go.Ev.bin_eql, Go.Ev.bin_lss, Go.Ev.settle, Go.Ev.keep, Go.Ev.varsLo, Go.Ev.marksLo, Go.Ev.storeLo, Go.Ev.SObj.lo, Go.Ev.lo_v, Go.Ev.lo_fsl, Go.Ev.lo_ptr, Go.Ev.los_nil, Go.Ev.los_cons, Go.Ev.loss_nil, Go.Ev.loss_cons, List.length_map, ↓Go.Ev.obind, Go.Ev.it1, ↓reduceIte, List.length_cons, List.length_nil, List.take_succ_cons, List.take_nil, List.drop_succ_cons, List.drop_zero, List.head?_cons, Nat.reduceAdd, Nat.reduceEqDiff, Nat.reduceLT, decide_true, decide_false, Bool.and_self, Bool.or_false, Bool.false_eq_true, and_self, Nat.zero_add, eq_self, Bool.false_and]
  · rintro b hb
    rw [List.take_length] at hb
    simp only [c_law20_ProcessLocal_L3, Int.lt_irrefl, Go.Ev.exec, Go.Ev.evOpers, Go.Ev.evOper, Go.Ev.item_op, Go.Ev.evOp, Go.Ev.Opnd.ev, Go.Ev.Env.get, Go.Ev.Env.set, Go.Ev.look, Go.Ev.bin_lss, List.length_map, ↓Go.Ev.obind, Go.Ev.it1, ↓reduceIte, Nat.reduceEqDiff, decide_false, Bool.false_eq_true, eq_self]
    exact ⟨_, rfl, rfl, rfl, rfl, rfl, rfl, rfl, rfl, rfl, rfl, rfl, by rw [← hb]; rfl⟩
theorem local_loop2 (hx8 : x.procs.length ≤ 8) (hxt : ∀ q ∈ x.procs, q.timer.length ≤ 20) (hl : out.length ≤ 16) (hgl : gone.length ≤ 16) (hgk : ∀ g ∈ gone, g.length ≤ 100) (hkl : ∀ ev ∈ out, ev.key.length ≤ 100)
    (hgo : ∀ g ∈ gone, over = true ∨ (∃ q, 0 ≤ e.proc ∧ x.procs[e.proc.toNat]? = some q ∧ q.timer = g) ∨ ∃ ev ∈ out, ev.kind = 2 ∧ ev.key = g) :
    ∃ z, itB (exec (evL T) itL none c_law20_ProcessLocal_L2) (Ev.settle [7, 8, 9, 11, 12, 13, 15] true 3) ⟨[(7, (.v (.bool (true)))), (8, .ptr 0 0 0 0), (9, .ptr 1 0 0 0), (11, (.fsl ((out).map Evt.r) nl)), (12, (.fsl ((gone).map keyC) nl)), (13, (.v (.bool (over)))), (15, (.v (.int .i64 (0))))], []⟩ [.row 4 [[(.v (.int .i64 (x.r0))), (.v (.int .i64 (x.r1))), (.fsl ((x.procs).map Pr.r) false), (.v (.int .i64 (x.sum)))]] 0, .row 6 [[(.v (.int .i64 (e.time))), (.fsl ((e.key).map intC) false), (.v (.int .i64 (e.lp))), (.v (.int .i64 (e.kind))), (.v (.int .i64 (e.proc))), (.v (.int .i64 (e.arg)))]] 0, .row 4 [[(.v (.int .i64 (y.r0))), (.v (.int .i64 (y.r1))), (.fsl ((y.procs).map Pr.r) false), (.v (.int .i64 (y.sum)))]] 0] = some z ∧ (z.1 = .exit 2 ∧ z.2.1.marks = [] ∧ z.2.2 = [.row 4 [[(.v (.int .i64 (x.r0))), (.v (.int .i64 (x.r1))), (.fsl ((x.procs).map Pr.r) false), (.v (.int .i64 (x.sum)))]] 0, .row 6 [[(.v (.int .i64 (e.time))), (.fsl ((e.key).map intC) false), (.v (.int .i64 (e.lp))), (.v (.int .i64 (e.kind))), (.v (.int .i64 (e.proc))), (.v (.int .i64 (e.arg)))]] 0, .row 4 [[(.v (.int .i64 (y.r0))), (.v (.int .i64 (y.r1))), (.fsl ((y.procs).map Pr.r) false), (.v (.int .i64 (y.sum)))]] 0] ∧ Ev.look z.2.1.vars 7 = some (.v (.bool (true)))) := by
  refine itB_each gone (fun i => ⟨[(7, (.v (.bool (true)))), (8, .ptr 0 0 0 0), (9, .ptr 1 0 0 0), (11, (.fsl ((out).map Evt.r) nl)), (12, (.fsl ((gone).map keyC) nl)), (13, (.v (.bool (over)))), (15, (.v (.int .i64 (i))))], []⟩) [.row 4 [[(.v (.int .i64 (x.r0))), (.v (.int .i64 (x.r1))), (.fsl ((x.procs).map Pr.r) false), (.v (.int .i64 (x.sum)))]] 0, .row 6 [[(.v (.int .i64 (e.time))), (.fsl ((e.key).map intC) false), (.v (.int .i64 (e.lp))), (.v (.int .i64 (e.kind))), (.v (.int .i64 (e.proc))), (.v (.int .i64 (e.arg)))]] 0, .row 4 [[(.v (.int .i64 (y.r0))), (.v (.int .i64 (y.r1))), (.fsl ((y.procs).map Pr.r) false), (.v (.int .i64 (y.sum)))]] 0] (fun z => _) ?_ ?_
  · intro i g hi hx
    have hi' : (i : Int) < (gone.length : Int) := by omega
    have hw : IntKind.i64.wrap ((i : Int) + 1) = ((i + 1 : Nat) : Int) := by rw [w64_small (by omega) (by omega)]; simp
    have hgm := List.mem_of_getElem? hx
    have fin : ∀ a : Bool, (a || out.any (hasK g)) = true → ∃ z, itB (exec (evL T) itL none c_law20_ProcessLocal_L3) (Ev.settle [7, 8, 9, 11, 12, 13, 15, 16, 17] true 3) ⟨[(7, (.v (.bool (true)))), (8, .ptr 0 0 0 0), (9, .ptr 1 0 0 0), (11, (.fsl ((out).map Evt.r) nl)), (12, (.fsl ((gone).map keyC) nl)), (13, (.v (.bool (over)))), (15, (.v (.int .i64 (i)))), (16, (.v (.bool (a)))), (17, (.v (.int .i64 (0))))], []⟩ [.row 4 [[(.v (.int .i64 (x.r0))), (.v (.int .i64 (x.r1))), (.fsl ((x.procs).map Pr.r) false), (.v (.int .i64 (x.sum)))]] 0, .row 6 [[(.v (.int .i64 (e.time))), (.fsl ((e.key).map intC) false), (.v (.int .i64 (e.lp))), (.v (.int .i64 (e.kind))), (.v (.int .i64 (e.proc))), (.v (.int .i64 (e.arg)))]] 0, .row 4 [[(.v (.int .i64 (y.r0))), (.v (.int .i64 (y.r1))), (.fsl ((y.procs).map Pr.r) false), (.v (.int .i64 (y.sum)))]] 0] = some z ∧ (z.1 = .exit 4 ∧ z.2.1.marks = [] ∧ z.2.2 = [.row 4 [[(.v (.int .i64 (x.r0))), (.v (.int .i64 (x.r1))), (.fsl ((x.procs).map Pr.r) false), (.v (.int .i64 (x.sum)))]] 0, .row 6 [[(.v (.int .i64 (e.time))), (.fsl ((e.key).map intC) false), (.v (.int .i64 (e.lp))), (.v (.int .i64 (e.kind))), (.v (.int .i64 (e.proc))), (.v (.int .i64 (e.arg)))]] 0, .row 4 [[(.v (.int .i64 (y.r0))), (.v (.int .i64 (y.r1))), (.fsl ((y.procs).map Pr.r) false), (.v (.int .i64 (y.sum)))]] 0] ∧ Ev.look z.2.1.vars 7 = some (.v (.bool (true))) ∧ Ev.look z.2.1.vars 8 = some (.ptr 0 0 0 0) ∧ Ev.look z.2.1.vars 9 = some (.ptr 1 0 0 0) ∧ Ev.look z.2.1.vars 11 = some (.fsl ((out).map Evt.r) nl) ∧ Ev.look z.2.1.vars 12 = some (.fsl ((gone).map keyC) nl) ∧ Ev.look z.2.1.vars 13 = some (.v (.bool (over))) ∧ Ev.look z.2.1.vars 15 = some (.v (.int .i64 (i))) ∧ Ev.look z.2.1.vars 16 = some (.v (.bool (true)))) := by
      intro a ha
      have := local_loop3 x y e out gone over nl i g a hx (hgk g hgm) hl hkl
      rw [ha] at this; exact this
    have hany : (∃ ev ∈ out, ev.kind = 2 ∧ ev.key = g) → ∀ a : Bool, (a || out.any (hasK g)) = true := by
      rintro ⟨ev, h1, h2, h3⟩ a
      have : out.any (hasK g) = true := List.any_eq_true.2 ⟨ev, h1, by simp [hasK, h2, h3]⟩
      rw [this]; simp
    by_cases hov : over = true
    · subst hov
      obtain ⟨⟨z, ee, σ⟩, k1, k2, k3, k4, k5, k6, k7, k8, k9, k10, k11, k12⟩ := fin true rfl
      simp only at k2 k3 k4
      subst k2 k4
      simp only [c_law20_ProcessLocal_L2, hi', hw, k1, k3, k5, k6, k7, k8, k9, k10, k11, k12, ints_lo, procs_lo, evts_lo, keys_lo, Nat.reduceLT, Go.Ev.exec, Go.Ev.evOpers, Go.Ev.evOper, Go.Ev.item_op, Go.Ev.evOp, Go.Ev.Opnd.ev, Go.Ev.Env.get, Go.Ev.Env.set, Go.Ev.Env.unset, Go.Ev.look, Go.Ev.bin_add, Go.Ev.bin_lss, Go.Ev.settle, Go.Ev.keep, Go.Ev.varsLo, Go.Ev.marksLo, Go.Ev.storeLo, Go.Ev.SObj.lo, Go.Ev.lo_v, Go.Ev.lo_fsl, Go.Ev.lo_ptr, Go.Ev.los_nil, Go.Ev.los_cons, Go.Ev.loss_nil, Go.Ev.loss_cons, List.length_map, ↓Go.Ev.obind, ↓Go.Ev.itL_itB, Go.Ev.it1, ↓reduceIte, List.length_cons, List.length_nil, List.take_succ_cons, List.take_nil, Nat.reduceAdd, Nat.reduceEqDiff, Nat.reduceLT, decide_true, Bool.and_self, Bool.not_true, Bool.false_eq_true, Bool.true_eq_false, and_self, Nat.zero_add, eq_self]
    · have hov' : over = false := by simpa using hov
      subst hov'
      have hgg := hgo g hgm
      by_cases g1 : e.proc ≥ 0
      case neg =>
        have hev : ∃ ev ∈ out, ev.kind = 2 ∧ ev.key = g := by
          rcases hgg with h | ⟨q, h, _⟩ | h
          · cases h
          · omega
          · exact h
        obtain ⟨⟨z, ee, σ⟩, k1, k2, k3, k4, k5, k6, k7, k8, k9, k10, k11, k12⟩ := fin false (hany hev false)
        simp only at k2 k3 k4
        subst k2 k4
        simp only [c_law20_ProcessLocal_L2, hi', hw, g1, k1, k3, k5, k6, k7, k8, k9, k10, k11, k12, ints_lo, procs_lo, evts_lo, keys_lo, Nat.reduceLT, Go.Ev.exec, Go.Ev.evOpers, Go.Ev.evOper, Go.Ev.item_op, Go.Ev.evOp, Go.Ev.Opnd.ev, Go.Ev.Env.get, Go.Ev.Env.set, Go.Ev.Env.unset, Go.Ev.look, Go.Ev.cellsAt, Go.Ev.loadC, Go.Ev.bin_add, Go.Ev.bin_lss, Go.Ev.bin_geq, Go.Ev.settle, Go.Ev.keep, Go.Ev.varsLo, Go.Ev.marksLo, Go.Ev.storeLo, Go.Ev.SObj.lo, Go.Ev.lo_v, Go.Ev.lo_fsl, Go.Ev.lo_ptr, Go.Ev.los_nil, Go.Ev.los_cons, Go.Ev.loss_nil, Go.Ev.loss_cons, List.length_map, ↓Go.Ev.obind, ↓Go.Ev.itL_itB, Go.Ev.it1, ↓reduceIte, List.length_cons, List.length_nil, List.getElem?_cons_zero, List.getElem?_cons_succ, List.take_succ_cons, List.take_nil, List.drop_succ_cons, List.drop_zero, List.head?_cons, Nat.reduceAdd, Nat.reduceEqDiff, Nat.reduceLT, decide_true, decide_false, Bool.and_self, Bool.not_true, Bool.false_eq_true, and_self, Nat.zero_add, eq_self]
      by_cases g2 : e.proc < (x.procs.length : Int)
      case neg =>
        have hev : ∃ ev ∈ out, ev.kind = 2 ∧ ev.key = g := by
          rcases hgg with h | ⟨q, _, h, _⟩ | h
          · cases h
          · have := (List.getElem?_eq_some_iff.1 h).1; omega
          · exact h
        obtain ⟨⟨z, ee, σ⟩, k1, k2, k3, k4, k5, k6, k7, k8, k9, k10, k11, k12⟩ := fin false (hany hev false)
        simp only at k2 k3 k4
        subst k2 k4
        simp only [c_law20_ProcessLocal_L2, hi', hw, g1, g2, k1, k3, k5, k6, k7, k8, k9, k10, k11, k12, ints_lo, procs_lo, evts_lo, keys_lo, Nat.reduceLT, Go.Ev.exec, Go.Ev.evOpers, Go.Ev.evOper, Go.Ev.item_op, Go.Ev.evOp, Go.Ev.Opnd.ev, Go.Ev.Env.get, Go.Ev.Env.set, Go.Ev.Env.unset, Go.Ev.look, Go.Ev.cellsAt, Go.Ev.loadC, Go.Ev.bin_add, Go.Ev.bin_lss, Go.Ev.bin_geq, Go.Ev.settle, Go.Ev.keep, Go.Ev.varsLo, Go.Ev.marksLo, Go.Ev.storeLo, Go.Ev.SObj.lo, Go.Ev.lo_v, Go.Ev.lo_fsl, Go.Ev.lo_ptr, Go.Ev.los_nil, Go.Ev.los_cons, Go.Ev.loss_nil, Go.Ev.loss_cons, List.length_map, ↓Go.Ev.obind, ↓Go.Ev.itL_itB, Go.Ev.it1, ↓reduceIte, List.length_cons, List.length_nil, List.getElem?_cons_zero, List.getElem?_cons_succ, List.take_succ_cons, List.take_nil, List.drop_succ_cons, List.drop_zero, List.head?_cons, Nat.reduceAdd, Nat.reduceEqDiff, Nat.reduceLT, decide_true, decide_false, Bool.and_self, Bool.not_true, Bool.false_eq_true, and_self, Nat.zero_add, eq_self]
      have g3 : 0 ≤ e.proc := g1
      obtain ⟨q, hq⟩ : ∃ q, x.procs[e.proc.toNat]? = some q := ⟨_, List.getElem?_eq_getElem (by omega)⟩
      have hv := SameKey_ev q.timer g false false (by have := hxt q (List.mem_of_getElem? hq); omega) (by have := hgk g hgm; omega)
      have hfin : (decide (q.timer = g) || out.any (hasK g)) = true := by
        rcases hgg with h | ⟨q', _, h, h2⟩ | h
        · cases h
        · rw [hq] at h; cases h; simp [h2]
        · exact hany h _
      obtain ⟨⟨z, ee, σ⟩, k1, k2, k3, k4, k5, k6, k7, k8, k9, k10, k11, k12⟩ := fin (decide (q.timer = g)) hfin
      simp only at k2 k3 k4
      subst k2 k4
      simp only [c_law20_ProcessLocal_L2, Int.natCast_nonneg, Int.toNat_natCast, List.getElem?_map, Option.map_some, hx, hi', hw, g1, g2, hq, hv, k1, k3, k5, k6, k7, k8, k9, k10, k11, k12, keyC, Pr.r, ints_lo, procs_lo, evts_lo, keys_lo, Nat.reduceLT, Go.Ev.exec, Go.Ev.evOpers, Go.Ev.evOper, Go.Ev.item_op, Go.Ev.item_P, Go.Ev.evOp, Go.Ev.evs, Go.Ev.Opnd.ev, Go.Ev.Env.get, Go.Ev.Env.set, Go.Ev.look, Go.Ev.cellsAt, Go.Ev.loadC, Go.Ev.bin_add, Go.Ev.bin_lss, Go.Ev.bin_geq, Go.Ev.settle, Go.Ev.keep, Go.Ev.varsLo, Go.Ev.marksLo, Go.Ev.storeLo, Go.Ev.SObj.lo, Go.Ev.lo_v, Go.Ev.lo_fsl, Go.Ev.lo_ptr, Go.Ev.los_nil, Go.Ev.los_cons, Go.Ev.loss_nil, Go.Ev.loss_cons, List.length_map, ↓Go.Ev.obind, ↓Go.Ev.itL_itB, Go.Ev.it1, ↓reduceIte, List.length_cons, List.length_nil, List.getElem?_cons_zero, List.getElem?_cons_succ, List.take_succ_cons, List.take_nil, List.drop_succ_cons, List.drop_zero, List.head?_cons, Nat.reduceAdd, Nat.reduceEqDiff, Nat.reduceLT, decide_true, Bool.and_self, Bool.not_true, Bool.false_eq_true, and_self, Nat.zero_add, eq_self]
  · simp only [c_law20_ProcessLocal_L2, Int.lt_irrefl, Go.Ev.exec, Go.Ev.evOpers, Go.Ev.evOper, Go.Ev.item_op, Go.Ev.evOp, Go.Ev.Opnd.ev, Go.Ev.Env.get, Go.Ev.Env.set, Go.Ev.look, Go.Ev.bin_lss, List.length_map, ↓Go.Ev.obind, Go.Ev.it1, ↓reduceIte, Nat.reduceEqDiff, decide_false, Bool.false_eq_true, eq_self]
    exact ⟨_, rfl, rfl, rfl, rfl, rfl⟩
end
theorem law_ProcessLocal (c : Cfg) (raw : Lp) (r : Evt) : callZ (evL T) n_law20_ProcessLocal [(.agg [(.fsl ((c.lps).map lpC) false), (.fsl ((c.progs).map progC) false), (.v (.int .i64 (c.look))), (.v (.int .i64 (c.fin))), (.v (.int .i64 (c.cap)))]), (.agg [(.v (.int .i64 (raw.r0))), (.v (.int .i64 (raw.r1))), (.fsl ((raw.procs).map Pr.r) false), (.v (.int .i64 (raw.sum)))]), (.agg [(.v (.int .i64 (r.time))), (.fsl ((r.key).map intC) false), (.v (.int .i64 (r.lp))), (.v (.int .i64 (r.kind))), (.v (.int .i64 (r.proc))), (.v (.int .i64 (r.arg)))])] = some (.v (.bool (true))) := by
  have hh := law20_head_ev
  have ho := law20_ok_ev c
  cases hb : okB c with
  | false =>
    rw [hb] at ho
    rw [callZ, evL_code ext_law20_ProcessLocal code_law20_ProcessLocal]
    simp only [c_law20_ProcessLocal, hh, ho, lps_lo, progs_lo, Go.Ev.runFunc, Go.Ev.exec, Go.Ev.evOpers, Go.Ev.evOper, Go.Ev.item_op, Go.Ev.item_P, Go.Ev.evOp, Go.Ev.evs, Go.Ev.Opnd.ev, Go.Ev.Env.get, Go.Ev.Env.set, Go.Ev.Env.unset, Go.Ev.look, Go.Ev.argVars, Go.Ev.cellsAt, Go.Ev.loadC, Go.Ev.AV.cells, Go.Ev.plains, Go.Ev.AV.plain, Go.Ev.resVals, Go.Ev.resVal, Go.Ev.resOf, Go.Ev.kill, Go.Ev.leave, Go.Ev.storeLo, Go.Ev.lo_v, Go.Ev.lo_agg, Go.Ev.lo_fsl, Go.Ev.los_nil, Go.Ev.los_cons, Go.Ev.frz_lo, ↓Go.Ev.obind, ↓reduceIte, List.length_cons, List.length_nil, List.take_succ_cons, List.take_nil, Nat.reduceAdd, Nat.reduceEqDiff, reduceCtorEq, Bool.and_self, Bool.not_false, Bool.true_eq_false, and_self, ne_eq, not_false_eq_true, List.cons_ne_nil, Nat.zero_add, Nat.le_refl, eq_self]
  | true =>
  rw [hb] at ho
  have hv := okB_iff hb
  by_cases h1 : (raw.procs.length : Int) > 20
  · rw [callZ, evL_code ext_law20_ProcessLocal code_law20_ProcessLocal]
    simp only [c_law20_ProcessLocal, hh, ho, h1, lps_lo, progs_lo, Go.Ev.runFunc, Go.Ev.exec, Go.Ev.evOpers, Go.Ev.evOper, Go.Ev.item_op, Go.Ev.item_P, Go.Ev.evOp, Go.Ev.evs, Go.Ev.Opnd.ev, Go.Ev.Env.get, Go.Ev.Env.set, Go.Ev.look, Go.Ev.argVars, Go.Ev.cellsAt, Go.Ev.loadC, Go.Ev.AV.cells, Go.Ev.plains, Go.Ev.AV.plain, Go.Ev.bin_gtr, Go.Ev.resVals, Go.Ev.resVal, Go.Ev.resOf, Go.Ev.kill, Go.Ev.leave, Go.Ev.storeLo, Go.Ev.lo_v, Go.Ev.lo_agg, Go.Ev.lo_fsl, Go.Ev.los_nil, Go.Ev.los_cons, Go.Ev.frz_lo, List.length_map, ↓Go.Ev.obind, ↓reduceIte, List.length_cons, List.length_nil, List.take_succ_cons, List.take_nil, List.drop_succ_cons, List.drop_zero, List.head?_cons, Nat.reduceAdd, Nat.reduceEqDiff, reduceCtorEq, decide_true, Bool.and_self, Bool.not_true, Bool.false_eq_true, and_self, ne_eq, not_false_eq_true, List.cons_ne_nil, Nat.zero_add, Nat.le_refl, eq_self]
  have v5 := law20_State_ev c raw hv
  have hs := stateL_proc hv raw
  have v6 := law20_Event_ev c (stateL c raw) r hv (fun q hq => ⟨(hs.2 q hq).1, (hs.2 q hq).2.1⟩) hs.1
  have hr := ready_of hv raw r
  generalize stateL c raw = x at *
  generalize eventE c x r = e at *
  have v7 := Exec_ev hr
  obtain ⟨X, o1, o2, o3⟩ := hr.outs
  obtain ⟨z1, z2, z3, z4, z5, z6⟩ := hr.sizes
  have hgo := hr.gones
  generalize execR c x e = R at *
  obtain ⟨y, out, gone, over, nl⟩ := R
  dsimp only at *
  obtain ⟨⟨z, ee, σ⟩, k1, k2, k3, k4, k5, k6, k7, k8, k9, k10⟩ := local_loop1 c x y e out gone over nl X o1 o2 z3
  obtain ⟨⟨z', ee', σ'⟩, m1, m2, m3, m4, m5⟩ := local_loop2 x y e out gone over nl hs.1 (fun q hq => (hr.proc q hq).2.2.2.2) z3 z6 z5 z4 hgo
  simp only at k2 k3 k4 m2 m3 m4
  subst k2 k4 m2 m4
  rw [callZ, evL_code ext_law20_ProcessLocal code_law20_ProcessLocal]
  simp only [c_law20_ProcessLocal, hh, ho, h1, v5, v6, v7, k1, k3, k5, k6, k7, k8, k9, k10, m1, m3, m5, lps_lo, progs_lo, ints_lo, procs_lo, evts_lo, keys_lo, Nat.reduceLT, Go.Ev.runFunc, Go.Ev.exec, Go.Ev.evOpers, Go.Ev.evOper, Go.Ev.item_op, Go.Ev.item_P, Go.Ev.evOp, Go.Ev.evs, Go.Ev.Opnd.ev, Go.Ev.Env.get, Go.Ev.Env.set, Go.Ev.look, Go.Ev.argVars, Go.Ev.cellsAt, Go.Ev.loadC, Go.Ev.AV.cells, Go.Ev.plains, Go.Ev.AV.plain, Go.Ev.bin_gtr, Go.Ev.resVals, Go.Ev.resVal, Go.Ev.resOf, Go.Ev.kill, Go.Ev.leave, Go.Ev.settle, Go.Ev.keep, Go.Ev.varsLo, Go.Ev.marksLo, Go.Ev.storeLo, Go.Ev.SObj.lo, Go.Ev.lo_v, Go.Ev.lo_agg, Go.Ev.lo_fsl, Go.Ev.lo_fptr, Go.Ev.lo_ptr, Go.Ev.los_nil, Go.Ev.los_cons, Go.Ev.loss_nil, Go.Ev.loss_cons, Go.Ev.frz_lo, List.length_map, ↓Go.Ev.obind, ↓Go.Ev.itL_itB, ↓reduceIte, List.length_cons, List.length_nil, List.getElem?_cons_zero, List.getElem?_cons_succ, List.take_succ_cons, List.take_zero, List.take_nil, List.drop_succ_cons, List.drop_zero, List.drop_nil, List.cons_append, List.nil_append, List.append_nil, List.set_cons_zero, List.set_cons_succ, List.head?_cons, Nat.reduceAdd, Nat.reduceEqDiff, Nat.reduceLT, reduceCtorEq, decide_true, decide_false, Bool.and_self, Bool.not_true, Bool.false_eq_true, and_self, ne_eq, not_false_eq_true, List.cons_ne_nil, Nat.zero_add, Nat.lt_add_one, Nat.le_refl, eq_self]
end Go.Proofs.Ytdpeepljabbcfaa.K
