/- Part of the proofs about this seat's program (module SSends). -/
import Derived.Test.YtbkabnhkclbepaaCReaches
import Derived.Test.YtbkabnhkclbepaaSHead
set_option linter.unusedSectionVars false
set_option linter.unusedSimpArgs false
set_option linter.unusedVariables false
namespace Go.Proofs.Ytbkabnhkclbepaa.K
open Go.Ev
set_option linter.unusedSimpArgs false
set_option linter.unusedVariables false
set_option maxRecDepth 10000
def hitB (p : List OpI) (n s : Int) : Bool := ((p[s.toNat]?).map fun x => decide (x.code = 2) && decide (x.c = n)).getD false
section
variable (p : List OpI) (c : Bool)
theorem sends_loop (hv : PV p) {S : List Int} (hr : Reached p S) {n : Int} (hn : MS p S n) :
    ∃ y, itB (exec (evL T) itL none c_law18_ProgramSends_L1) (Ev.settle [0, 3, 4, 5, 6, 7] true 0) ⟨[(0, (.fsl ((p).map OpI.r) c)), (3, (.v (.bool (true)))), (4, (.fsl ((S).map intC) false)), (5, (.v (.int .i64 (n)))), (6, (.v (.bool (false)))), (7, (.v (.int .i64 (0))))], []⟩ [] = some y ∧
      (y.1 = .exit 0 ∧ y.2.1.marks = [] ∧ y.2.2 = [] ∧ Ev.look y.2.1.vars 3 = some (.v (.bool (true))) ∧ Ev.look y.2.1.vars 5 = some (.v (.int .i64 (n))) ∧ Ev.look y.2.1.vars 6 = some (.v (.bool (S.any (hitB p n))))) := by
  have hl := nodup_len hr.nodup hr.rng
  have hp := hv.len
  have key := itB_for (f := exec (evL T) itL none c_law18_ProgramSends_L1) (s := Ev.settle [0, 3, 4, 5, 6, 7] true 0) (α := Bool) (fun i b => ⟨[(0, (.fsl ((p).map OpI.r) c)), (3, (.v (.bool (true)))), (4, (.fsl ((S).map intC) false)), (5, (.v (.int .i64 (n)))), (6, (.v (.bool (b)))), (7, (.v (.int .i64 (i))))], []⟩) (fun _ _ => [])
    (fun i b => b = (S.take i).any (hitB p n)) S.length (fun y => y.1 = .exit 0 ∧ y.2.1.marks = [] ∧ y.2.2 = [] ∧ Ev.look y.2.1.vars 3 = some (.v (.bool (true))) ∧ Ev.look y.2.1.vars 5 = some (.v (.int .i64 (n))) ∧ Ev.look y.2.1.vars 6 = some (.v (.bool (S.any (hitB p n))))) ?_ ?_ 0 false (Nat.zero_le _) (by simp)
  · exact key
  · rintro i b hi hb
    obtain ⟨s, hs⟩ : ∃ s, S[i]? = some s := ⟨_, List.getElem?_eq_getElem hi⟩
    have hsm := List.mem_of_getElem? hs
    have hsr := hr.rng s hsm
    obtain ⟨j, rfl⟩ : ∃ j : Nat, s = (j : Int) := ⟨s.toNat, by have := hsr.1; omega⟩
    obtain ⟨x, hx⟩ : ∃ x, p[j]? = some x := ⟨_, List.getElem?_eq_getElem (by have := hsr.2; omega)⟩
    have gj : p[(j : Int).toNat]? = some x := by rw [Int.toNat_natCast]; exact hx
    have hi' : (i : Int) < (S.length : Int) := by omega
    have hw : IntKind.i64.wrap ((i : Int) + 1) = ((i + 1 : Nat) : Int) := w64_add1 (by omega)
    have c1 : ¬ (j : Int) < 0 := by omega
    have c2 : ¬ (j : Int) ≥ (p.length : Int) := by have := hsr.2; omega
    have hit : (S.take (i + 1)).any (hitB p n) = (b || (decide (x.code = 2) && decide (x.c = n))) := by
      rw [take_next hs, List.any_append, ← hb]
      simp [hitB]
      rw [hx]; rfl
    refine .inl ⟨_, ?_, hit.symm⟩
    by_cases h2 : x.code = 2
    · rcases hn with ⟨_, hn2⟩ | ⟨hn1, _, hn3⟩
      · exact absurd h2 (hn2 j hsm x gj)
      have c3 : ¬ n = -1 := by omega
      have c4 : ¬ x.c < n := by have := hn3 j hsm x gj h2; omega
      obtain ⟨k, a, b', d⟩ := x
      simp only at h2 c4
      subst h2
      by_cases h5 : d = n
      · subst h5
        have c4' : ¬ d < d := by omega
        cases b <;> simp only [c_law18_ProgramSends_L1, Int.natCast_nonneg, Int.toNat_natCast, List.getElem?_map, Option.map_some, hs, hx, hi', hw, c1, c2, c3, c4', OpI.r, intC, prog_lo, ints_lo, Go.Ev.exec, Go.Ev.evOpers, Go.Ev.evOper, Go.Ev.item_op, Go.Ev.evOp, Go.Ev.Opnd.ev, Go.Ev.Env.get, Go.Ev.Env.set, Go.Ev.Env.unset, Go.Ev.look, Go.Ev.cellsAt, Go.Ev.loadC, Go.Ev.AV.cells, Go.Ev.plains, Go.Ev.AV.plain, Go.Ev.bin_add, Go.Ev.bin_eql, Go.Ev.bin_lss, Go.Ev.bin_geq, Go.Ev.settle, Go.Ev.keep, Go.Ev.varsLo, Go.Ev.marksLo, Go.Ev.storeLo, Go.Ev.lo_v, Go.Ev.lo_fsl, List.length_map, ↓Go.Ev.obind, Go.Ev.it1, ↓reduceIte, List.length_cons, List.length_nil, List.getElem?_cons_zero, List.take_succ_cons, List.take_zero, List.take_nil, List.drop_succ_cons, List.drop_zero, List.drop_nil, List.nil_append, List.append_nil, List.set_cons_zero, List.head?_cons, Nat.reduceAdd, Nat.reduceEqDiff, Int.reduceNeg, reduceCtorEq, decide_true, decide_false, Bool.and_self, Bool.or_true, Bool.false_eq_true, Bool.true_eq_false, and_self, ne_eq, not_false_eq_true, List.cons_ne_nil, Nat.zero_add, Nat.add_zero, Nat.le_refl, eq_self]
      · cases b <;> simp only [c_law18_ProgramSends_L1, Int.natCast_nonneg, Int.toNat_natCast, List.getElem?_map, Option.map_some, hs, hx, hi', hw, c1, c2, c3, c4, h5, OpI.r, intC, prog_lo, ints_lo, Go.Ev.exec, Go.Ev.evOpers, Go.Ev.evOper, Go.Ev.item_op, Go.Ev.evOp, Go.Ev.Opnd.ev, Go.Ev.Env.get, Go.Ev.Env.set, Go.Ev.Env.unset, Go.Ev.look, Go.Ev.cellsAt, Go.Ev.loadC, Go.Ev.AV.cells, Go.Ev.plains, Go.Ev.AV.plain, Go.Ev.bin_add, Go.Ev.bin_eql, Go.Ev.bin_lss, Go.Ev.bin_geq, Go.Ev.settle, Go.Ev.keep, Go.Ev.varsLo, Go.Ev.marksLo, Go.Ev.storeLo, Go.Ev.lo_v, Go.Ev.lo_fsl, List.length_map, ↓Go.Ev.obind, Go.Ev.it1, ↓reduceIte, List.length_cons, List.length_nil, List.getElem?_cons_zero, List.take_succ_cons, List.take_zero, List.take_nil, List.drop_succ_cons, List.drop_zero, List.drop_nil, List.nil_append, List.append_nil, List.set_cons_zero, List.head?_cons, Nat.reduceAdd, Nat.reduceEqDiff, Int.reduceNeg, reduceCtorEq, decide_true, decide_false, Bool.and_self, Bool.or_false, Bool.false_eq_true, Bool.true_eq_false, and_self, ne_eq, not_false_eq_true, List.cons_ne_nil, Nat.zero_add, Nat.add_zero, Nat.le_refl, eq_self, Bool.and_false]
    · obtain ⟨k, a, b', d⟩ := x
      simp only at h2
      cases b <;> simp only [c_law18_ProgramSends_L1, Int.natCast_nonneg, Int.toNat_natCast, List.getElem?_map, Option.map_some, hs, hx, hi', hw, c1, c2, h2, OpI.r, intC, prog_lo, ints_lo, Go.Ev.exec, Go.Ev.evOpers, Go.Ev.evOper, Go.Ev.item_op, Go.Ev.evOp, Go.Ev.Opnd.ev, Go.Ev.Env.get, Go.Ev.Env.set, Go.Ev.Env.unset, Go.Ev.look, Go.Ev.cellsAt, Go.Ev.loadC, Go.Ev.AV.cells, Go.Ev.plains, Go.Ev.AV.plain, Go.Ev.bin_add, Go.Ev.bin_eql, Go.Ev.bin_lss, Go.Ev.bin_geq, Go.Ev.settle, Go.Ev.keep, Go.Ev.varsLo, Go.Ev.marksLo, Go.Ev.storeLo, Go.Ev.lo_v, Go.Ev.lo_fsl, List.length_map, ↓Go.Ev.obind, Go.Ev.it1, ↓reduceIte, List.length_cons, List.length_nil, List.getElem?_cons_zero, List.take_succ_cons, List.take_zero, List.take_nil, List.drop_succ_cons, List.drop_zero, List.drop_nil, List.nil_append, List.append_nil, List.set_cons_zero, List.head?_cons, Nat.reduceAdd, Nat.reduceEqDiff, Int.reduceNeg, reduceCtorEq, decide_true, decide_false, Bool.and_self, Bool.or_false, Bool.false_eq_true, Bool.true_eq_false, and_self, ne_eq, not_false_eq_true, List.cons_ne_nil, Nat.zero_add, Nat.add_zero, Nat.le_refl, eq_self, Bool.false_and]
  · rintro b hb
    rw [List.take_length] at hb
    simp only [c_law18_ProgramSends_L1, Int.lt_irrefl, Go.Ev.exec, Go.Ev.evOpers, Go.Ev.evOper, Go.Ev.item_op, Go.Ev.evOp, Go.Ev.Opnd.ev, Go.Ev.Env.get, Go.Ev.Env.set, Go.Ev.look, Go.Ev.bin_lss, List.length_map, ↓Go.Ev.obind, Go.Ev.it1, ↓reduceIte, Nat.reduceEqDiff, Int.reduceNeg, reduceCtorEq, decide_false, Bool.false_eq_true, eq_self]
    exact ⟨_, rfl, rfl, rfl, rfl, rfl, rfl, by rw [← hb]; rfl⟩
theorem law_ProgramSends : callZ (evL T) n_law18_ProgramSends [(.fsl ((p).map OpI.r) c)] = some (.v (.bool (true))) := by
  rw [callZ, evL_code ext_law18_ProgramSends code_law18_ProgramSends]
  by_cases h40 : (p.length : Int) > 40
  · simp only [c_law18_ProgramSends, law18_head_ev, h40, Go.Ev.runFunc, Go.Ev.exec, Go.Ev.evOpers, Go.Ev.evOper, Go.Ev.item_op, Go.Ev.item_P, Go.Ev.evOp, Go.Ev.evs, Go.Ev.Opnd.ev, Go.Ev.Env.get, Go.Ev.Env.set, Go.Ev.Env.unset, Go.Ev.look, Go.Ev.argVars, Go.Ev.bin_gtr, Go.Ev.resVals, Go.Ev.resVal, Go.Ev.resOf, Go.Ev.kill, Go.Ev.leave, Go.Ev.storeLo, Go.Ev.lo_v, Go.Ev.los_nil, Go.Ev.frz_lo, List.length_map, ↓Go.Ev.obind, ↓reduceIte, List.length_cons, List.length_nil, List.take_nil, Nat.reduceEqDiff, Int.reduceNeg, reduceCtorEq, decide_true, Bool.true_eq_false, and_self, Nat.zero_add, eq_self]
  have hr := ref18_Check_ev p c 1099511627776 4611686018427387904 0
  by_cases hz : checkZ p 1099511627776 4611686018427387904 0 = 0
  case neg => simp only [c_law18_ProgramSends, law18_head_ev, h40, hr, hz, prog_lo, Go.Ev.runFunc, Go.Ev.exec, Go.Ev.evOpers, Go.Ev.evOper, Go.Ev.item_op, Go.Ev.item_P, Go.Ev.evOp, Go.Ev.evs, Go.Ev.Opnd.ev, Go.Ev.Env.get, Go.Ev.Env.set, Go.Ev.look, Go.Ev.argVars, Go.Ev.bin_neq, Go.Ev.bin_gtr, Go.Ev.resVals, Go.Ev.resVal, Go.Ev.resOf, Go.Ev.kill, Go.Ev.leave, Go.Ev.storeLo, Go.Ev.lo_v, Go.Ev.lo_fsl, Go.Ev.los_nil, Go.Ev.los_cons, Go.Ev.frz_lo, List.length_map, ↓Go.Ev.obind, ↓reduceIte, List.length_cons, List.length_nil, List.take_nil, Nat.reduceEqDiff, Int.reduceNeg, reduceCtorEq, decide_true, decide_false, Bool.and_self, Bool.false_eq_true, and_self, ne_eq, not_false_eq_true, Nat.zero_add, eq_self]
  have hv := pv_of hz
  rw [hz] at hr
  obtain ⟨S, hS, hR⟩ := Reachable_ev p c hv
  obtain ⟨n, hn, hM⟩ := MinSend_ev p c hv hS hR
  obtain ⟨⟨y, e, σ⟩, k1, k2, k3, k4, k5, k6, k7⟩ := sends_loop p c hv hS hn
  simp only at k1 k2 k3 k4 k5 k6 k7
  subst k2; subst k4
  rcases hn with ⟨hn1, hn2⟩ | ⟨hn1, ⟨s, hs, x, hx, hc, hd⟩, _⟩
  · have hany : S.any (hitB p n) = false := by
      rw [List.any_eq_false]
      intro s hs hh
      unfold hitB at hh
      cases hx : p[s.toNat]? with
      | none => rw [hx] at hh; simp at hh
      | some x =>
        rw [hx] at hh
        simp at hh
        exact hn2 s hs x hx hh.1
    subst hn1
    rw [hany] at k7
    simp only [c_law18_ProgramSends, law18_head_ev, h40, hr, hR, hM, k1, k3, k5, k6, k7, prog_lo, ints_lo, Go.Ev.runFunc, Go.Ev.exec, Go.Ev.evOpers, Go.Ev.evOper, Go.Ev.item_op, Go.Ev.item_P, Go.Ev.evOp, Go.Ev.evs, Go.Ev.Opnd.ev, Go.Ev.Env.get, Go.Ev.Env.set, Go.Ev.look, Go.Ev.argVars, Go.Ev.bin_neq, Go.Ev.bin_gtr, Go.Ev.resVals, Go.Ev.resVal, Go.Ev.resOf, Go.Ev.kill, Go.Ev.leave, Go.Ev.settle, Go.Ev.keep, Go.Ev.varsLo, Go.Ev.marksLo, Go.Ev.storeLo, Go.Ev.lo_v, Go.Ev.lo_fsl, Go.Ev.los_nil, Go.Ev.los_cons, Go.Ev.frz_lo, List.length_map, ↓Go.Ev.obind, ↓Go.Ev.itL_itB, ↓reduceIte, List.length_cons, List.length_nil, List.take_nil, Nat.reduceEqDiff, Int.reduceNeg, reduceCtorEq, decide_false, Bool.and_self, Bool.false_eq_true, and_self, ne_eq, not_true_eq_false, Nat.zero_add, eq_self, beq_self_eq_true]
  · have hany : S.any (hitB p n) = true := by
      rw [List.any_eq_true]
      exact ⟨s, hs, by unfold hitB; rw [hx]; simp [hc, hd]⟩
    have c3 : ¬ n = -1 := by omega
    rw [hany] at k7
    simp only [c_law18_ProgramSends, law18_head_ev, h40, hr, hR, hM, k1, k3, k5, k6, k7, c3, prog_lo, ints_lo, Go.Ev.runFunc, Go.Ev.exec, Go.Ev.evOpers, Go.Ev.evOper, Go.Ev.item_op, Go.Ev.item_P, Go.Ev.evOp, Go.Ev.evs, Go.Ev.Opnd.ev, Go.Ev.Env.get, Go.Ev.Env.set, Go.Ev.look, Go.Ev.argVars, Go.Ev.bin_neq, Go.Ev.bin_gtr, Go.Ev.resVals, Go.Ev.resVal, Go.Ev.resOf, Go.Ev.kill, Go.Ev.leave, Go.Ev.settle, Go.Ev.keep, Go.Ev.varsLo, Go.Ev.marksLo, Go.Ev.storeLo, Go.Ev.lo_v, Go.Ev.lo_fsl, Go.Ev.los_nil, Go.Ev.los_cons, Go.Ev.frz_lo, List.length_map, ↓Go.Ev.obind, ↓Go.Ev.itL_itB, ↓reduceIte, List.length_cons, List.length_nil, List.take_nil, Nat.reduceEqDiff, Int.reduceNeg, reduceCtorEq, decide_true, decide_false, Bool.and_self, Bool.false_eq_true, and_self, ne_eq, not_false_eq_true, not_true_eq_false, Nat.zero_add, eq_self, beq_self_eq_true]
end
end Go.Proofs.Ytbkabnhkclbepaa.K
