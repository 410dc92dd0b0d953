/- Part of the proofs about this seat's program (module SCR). -/
import Derived.Test.YtlcakphdkpdenaaSMono2
import Derived.Test.YtlcakphdkpdenaaCCfgs
import Derived.Test.YtlcakphdkpdenaaCInits
set_option linter.unusedSectionVars false
set_option linter.unusedSimpArgs false
set_option linter.unusedVariables false
namespace Go.Proofs.Ytlcakphdkpdenaa.K
open Go.Ev
set_option linter.unusedSimpArgs false
set_option linter.unusedVariables false
set_option maxRecDepth 10000
theorem firstE_Z {τ : Type} (f : τ → Int) (l : List τ) : firstE f l = firstZ f l := by
  unfold firstE firstZ
  cases l.find? (fun x => !decide (f x = 0)) <;> rfl
theorem rsizes_eq (c : Cfg) : rsizesB c = sizesB c := by
  rw [Bool.eq_iff_iff]
  simp only [rsizesB, sizesB, sizes0, withinB, lenB, len8, Bool.and_eq_true, decide_eq_true_eq, List.all_eq_true, Bool.not_eq_true', decide_eq_false_iff_not]
  constructor
  · rintro ⟨⟨h1, h2, h3⟩, h4, h5, h6, h7, h8⟩
    exact ⟨⟨⟨by omega, by omega⟩, by omega, ⟨by omega, by omega⟩, by omega, by omega⟩, fun x hx => by have := h4 x hx; omega⟩
  · rintro ⟨⟨⟨h1, h2⟩, h3, ⟨h4, h5⟩, h6, h7⟩, h8⟩
    exact ⟨⟨by omega, by omega, by omega⟩, fun x hx => by have := h8 x hx; omega, by omega, by omega, by omega, by omega⟩
theorem rstart_eq (c : Cfg) (s : Start) : rstartZ c s = startE c s := by
  unfold rstartZ startE okZ withinB
  by_cases h1 : s.prog < 0 ∨ s.prog ≥ c.progs.length
  · have : (decide (s.prog ≥ 0) && decide (s.prog ≤ (c.progs.length : Int) - 1)) = false := by
      rw [Bool.and_eq_false_iff]; simp only [decide_eq_false_iff_not]; omega
    rw [if_pos h1, if_pos this]
  · have : ¬ (decide (s.prog ≥ 0) && decide (s.prog ≤ (c.progs.length : Int) - 1)) = false := by
      rw [Bool.and_eq_false_iff]; simp only [decide_eq_false_iff_not]; omega
    rw [if_neg h1, if_neg this]
    by_cases h2 : s.time < 0 ∨ s.time > 1152921504606846976
    · have : ¬ (decide (s.time ≥ 0) && decide (s.time ≤ 1152921504606846976)) = true := by
        rw [Bool.and_eq_true]; simp only [decide_eq_true_eq]; omega
      rw [if_pos h2, if_neg this]
    · have : (decide (s.time ≥ 0) && decide (s.time ≤ 1152921504606846976)) = true := by
        rw [Bool.and_eq_true]; simp only [decide_eq_true_eq]; omega
      rw [if_neg h2, if_pos this]
theorem rcfgZ_eq (c : Cfg) : rcfgZ c = cfgZ c := by
  have e1 : rlpZ c = firstE (startE c) := by
    funext l; show firstZ (rstartZ c) l = _
    rw [firstE_Z, show rstartZ c = startE c from funext (rstart_eq c)]
  have e2 : rprogZ c = progZ c := rfl
  unfold rcfgZ
  rw [rsizes_eq, e1, e2, ← firstE_Z, ← firstE_Z]
  by_cases h1 : sizesB c = false
  · rw [if_pos h1, cfgZ_sizes h1]
  have h1' : sizesB c = true := by simpa using h1
  rw [if_neg h1]
  by_cases h2 : c.look < 1
  · rw [if_pos h2, cfgZ_look h1' (by omega)]
  rw [if_neg h2]
  by_cases h3 : firstE (progZ c) c.progs ≠ 0
  · rw [if_pos h3, cfgZ_progs h1' (by omega) h3]
  · rw [if_neg h3, cfgZ_starts h1' (by omega) (by simpa using h3)]
section
variable (c : Cfg)
theorem rlook_inner (a : Int) (p : List OpI) (i : Nat) (hp : c.progs[i]? = some p) (hl : p.length < 2 ^ 62) :
    ∃ y, itB (exec (evL T) itL none c_ref19_Lookahead_L2) (Ev.settle [1, 3, 4, 5] true 1) ⟨[(1, .ptr 0 0 0 0), (3, (.v (.int .i64 (a)))), (4, (.v (.int .i64 (i)))), (5, (.v (.int .i64 (0))))], []⟩ [.row 5 [[(.fsl ((c.lps).map lpC) false), (.fsl ((c.progs).map progC) false), (.v (.int .i64 (1))), (.v (.int .i64 (c.fin))), (.v (.int .i64 (c.cap)))]] 0] = some y ∧
      y.1 = .exit 2 ∧ y.2.1.marks = [] ∧ y.2.2 = [.row 5 [[(.fsl ((c.lps).map lpC) false), (.fsl ((c.progs).map progC) false), (.v (.int .i64 (1))), (.v (.int .i64 (c.fin))), (.v (.int .i64 (c.cap)))]] 0] ∧ Ev.look y.2.1.vars 1 = some (.ptr 0 0 0 0) ∧ Ev.look y.2.1.vars 3 = some (.v (.int .i64 (minProg a p))) ∧ Ev.look y.2.1.vars 4 = some (.v (.int .i64 (i))) := by
  have := itB_for (f := exec (evL T) itL none c_ref19_Lookahead_L2) (s := Ev.settle [1, 3, 4, 5] true 1) (α := Int) (fun j a => ⟨[(1, .ptr 0 0 0 0), (3, (.v (.int .i64 (a)))), (4, (.v (.int .i64 (i)))), (5, (.v (.int .i64 ((j : Int)))))], []⟩) (fun _ _ => [.row 5 [[(.fsl ((c.lps).map lpC) false), (.fsl ((c.progs).map progC) false), (.v (.int .i64 (1))), (.v (.int .i64 (c.fin))), (.v (.int .i64 (c.cap)))]] 0])
    (fun j r => r = minProg a (p.take j)) p.length (fun y => y.1 = .exit 2 ∧ y.2.1.marks = [] ∧ y.2.2 = [.row 5 [[(.fsl ((c.lps).map lpC) false), (.fsl ((c.progs).map progC) false), (.v (.int .i64 (1))), (.v (.int .i64 (c.fin))), (.v (.int .i64 (c.cap)))]] 0] ∧ Ev.look y.2.1.vars 1 = some (.ptr 0 0 0 0) ∧ Ev.look y.2.1.vars 3 = some (.v (.int .i64 (minProg a p))) ∧ Ev.look y.2.1.vars 4 = some (.v (.int .i64 (i)))) ?_ ?_ 0 a (Nat.zero_le _) rfl
  · exact this
  · rintro j r hj hr
    obtain ⟨x, hx⟩ : ∃ x, p[j]? = some x := ⟨_, List.getElem?_eq_getElem hj⟩
    have hj' : (j : Int) < (p.length : Int) := by omega
    have hw : IntKind.i64.wrap ((j : Int) + 1) = ((j + 1 : Nat) : Int) := by rw [w64_small (by omega) (by omega)]; simp
    refine .inl ⟨minStep r x, ?_, by rw [hr, minProg, minProg, take_next hx, List.foldl_append]; rfl⟩
    by_cases h1 : x.code = 2
    · by_cases h2 : x.c < r <;> simp only [c_ref19_Lookahead_L2, Int.natCast_nonneg, Int.toNat_natCast, List.getElem?_map, Option.map_some, hp, hx, hj', hw, h1, h2, minStep, lps_lo, progs_lo, progC, OpI.r, Go.Ev.exec, Go.Ev.evOpers, Go.Ev.evOper, Go.Ev.item_op, Go.Ev.evOp, Go.Ev.Opnd.ev, Go.Ev.Env.get, Go.Ev.Env.set, Go.Ev.look, Go.Ev.cellsAt, Go.Ev.loadC, Go.Ev.bin_add, Go.Ev.bin_eql, Go.Ev.bin_lss, Go.Ev.settle, Go.Ev.keep, Go.Ev.varsLo, Go.Ev.marksLo, Go.Ev.storeLo, Go.Ev.SObj.lo, Go.Ev.lo_v, Go.Ev.lo_fsl, Go.Ev.lo_ptr, Go.Ev.los_nil, Go.Ev.los_cons, Go.Ev.loss_nil, Go.Ev.loss_cons, List.length_map, ↓Go.Ev.obind, Go.Ev.it1, ↓reduceIte, List.length_cons, List.length_nil, List.getElem?_cons_zero, List.take_succ_cons, List.take_nil, List.drop_succ_cons, List.drop_zero, List.head?_cons, Nat.reduceAdd, Nat.reduceEqDiff, decide_true, Bool.and_self, Bool.false_eq_true, and_self, Nat.zero_add, Nat.lt_add_one, eq_self]
    · simp only [c_ref19_Lookahead_L2, Int.natCast_nonneg, Int.toNat_natCast, List.getElem?_map, Option.map_some, hp, hx, hj', hw, h1, minStep, lps_lo, progs_lo, progC, OpI.r, Go.Ev.exec, Go.Ev.evOpers, Go.Ev.evOper, Go.Ev.item_op, Go.Ev.evOp, Go.Ev.Opnd.ev, Go.Ev.Env.get, Go.Ev.Env.set, Go.Ev.look, Go.Ev.cellsAt, Go.Ev.loadC, Go.Ev.bin_add, Go.Ev.bin_eql, Go.Ev.bin_lss, Go.Ev.settle, Go.Ev.keep, Go.Ev.varsLo, Go.Ev.marksLo, Go.Ev.storeLo, Go.Ev.SObj.lo, Go.Ev.lo_v, Go.Ev.lo_fsl, Go.Ev.lo_ptr, Go.Ev.los_nil, Go.Ev.los_cons, Go.Ev.loss_nil, Go.Ev.loss_cons, List.length_map, ↓Go.Ev.obind, Go.Ev.it1, ↓reduceIte, List.length_cons, List.length_nil, List.getElem?_cons_zero, List.take_succ_cons, List.take_nil, List.drop_succ_cons, List.drop_zero, List.head?_cons, Nat.reduceAdd, Nat.reduceEqDiff, decide_true, decide_false, Bool.and_self, Bool.false_eq_true, and_self, Nat.zero_add, Nat.lt_add_one, eq_self]
  · rintro r hr
    rw [List.take_length] at hr
    simp only [c_ref19_Lookahead_L2, Int.natCast_nonneg, Int.toNat_natCast, List.getElem?_map, Option.map_some, hp, progC, Int.lt_irrefl, Go.Ev.exec, Go.Ev.evOpers, Go.Ev.evOper, Go.Ev.item_op, Go.Ev.evOp, Go.Ev.Opnd.ev, Go.Ev.Env.get, Go.Ev.Env.set, Go.Ev.look, Go.Ev.cellsAt, Go.Ev.loadC, Go.Ev.bin_lss, List.length_map, ↓Go.Ev.obind, Go.Ev.it1, ↓reduceIte, List.length_cons, List.length_nil, List.getElem?_cons_zero, List.drop_succ_cons, List.drop_zero, List.head?_cons, Nat.reduceEqDiff, decide_false, Bool.false_eq_true, Nat.zero_add, eq_self]
    exact ⟨_, rfl, rfl, rfl, rfl, rfl, by rw [← hr]; rfl, rfl⟩
theorem rlook_outer (h : CfgOk c) :
    ∃ y, itB (exec (evL T) itL none c_ref19_Lookahead_L1) (Ev.settle [1, 3, 4] true 1) ⟨[(1, .ptr 0 0 0 0), (3, (.v (.int .i64 (1099511627776)))), (4, (.v (.int .i64 (0))))], []⟩ [.row 5 [[(.fsl ((c.lps).map lpC) false), (.fsl ((c.progs).map progC) false), (.v (.int .i64 (1))), (.v (.int .i64 (c.fin))), (.v (.int .i64 (c.cap)))]] 0] = some y ∧
      y.1 = .exit 0 ∧ y.2.1.marks = [] ∧ y.2.2 = [.row 5 [[(.fsl ((c.lps).map lpC) false), (.fsl ((c.progs).map progC) false), (.v (.int .i64 (1))), (.v (.int .i64 (c.fin))), (.v (.int .i64 (c.cap)))]] 0] ∧ Ev.look y.2.1.vars 3 = some (.v (.int .i64 (c.progs.foldl minProg 1099511627776))) := by
  have hlp := h.progs
  have := itB_for (f := exec (evL T) itL none c_ref19_Lookahead_L1) (s := Ev.settle [1, 3, 4] true 1) (α := Int) (fun j a => ⟨[(1, .ptr 0 0 0 0), (3, (.v (.int .i64 (a)))), (4, (.v (.int .i64 ((j : Int)))))], []⟩) (fun _ _ => [.row 5 [[(.fsl ((c.lps).map lpC) false), (.fsl ((c.progs).map progC) false), (.v (.int .i64 (1))), (.v (.int .i64 (c.fin))), (.v (.int .i64 (c.cap)))]] 0])
    (fun j r => r = (c.progs.take j).foldl minProg 1099511627776) c.progs.length (fun y => y.1 = .exit 0 ∧ y.2.1.marks = [] ∧ y.2.2 = [.row 5 [[(.fsl ((c.lps).map lpC) false), (.fsl ((c.progs).map progC) false), (.v (.int .i64 (1))), (.v (.int .i64 (c.fin))), (.v (.int .i64 (c.cap)))]] 0] ∧ Ev.look y.2.1.vars 3 = some (.v (.int .i64 (c.progs.foldl minProg 1099511627776)))) ?_ ?_ 0 1099511627776 (Nat.zero_le _) rfl
  · exact this
  · rintro j r hj hr
    obtain ⟨p, hx⟩ : ∃ x, c.progs[j]? = some x := ⟨_, List.getElem?_eq_getElem hj⟩
    have hj' : (j : Int) < (c.progs.length : Int) := by omega
    have hw : IntKind.i64.wrap ((j : Int) + 1) = ((j + 1 : Nat) : Int) := by rw [w64_small (by omega) (by omega)]; simp
    obtain ⟨⟨y, e, σ⟩, k1, k2, k3, k4, k5, k6, k7⟩ := rlook_inner c r p j hx (h.prog p (List.mem_of_getElem? hx))
    simp only at k2 k3 k4 k5 k6 k7
    subst k2; subst k4
    refine .inl ⟨minProg r p, ?_, by rw [hr, take_next hx, List.foldl_append]; rfl⟩
    simp only [c_ref19_Lookahead_L1, hj', hw, k1, k3, k5, k6, k7, lps_lo, progs_lo, Go.Ev.exec, Go.Ev.evOpers, Go.Ev.evOper, Go.Ev.item_op, Go.Ev.evOp, Go.Ev.Opnd.ev, Go.Ev.Env.get, Go.Ev.Env.set, Go.Ev.look, Go.Ev.cellsAt, Go.Ev.loadC, Go.Ev.bin_add, Go.Ev.bin_lss, Go.Ev.settle, Go.Ev.keep, Go.Ev.varsLo, Go.Ev.marksLo, Go.Ev.storeLo, Go.Ev.SObj.lo, Go.Ev.lo_v, Go.Ev.lo_fsl, Go.Ev.lo_ptr, Go.Ev.los_nil, Go.Ev.los_cons, Go.Ev.loss_nil, Go.Ev.loss_cons, List.length_map, ↓Go.Ev.obind, ↓Go.Ev.itL_itB, Go.Ev.it1, ↓reduceIte, List.length_cons, List.length_nil, List.getElem?_cons_zero, List.take_succ_cons, List.take_nil, List.drop_succ_cons, List.drop_zero, List.head?_cons, Nat.reduceEqDiff, decide_true, Bool.and_self, Bool.false_eq_true, and_self, Nat.zero_add, Nat.lt_add_one, eq_self]
  · rintro r hr
    rw [List.take_length] at hr
    simp only [c_ref19_Lookahead_L1, Int.lt_irrefl, Go.Ev.exec, Go.Ev.evOpers, Go.Ev.evOper, Go.Ev.item_op, Go.Ev.evOp, Go.Ev.Opnd.ev, Go.Ev.Env.get, Go.Ev.Env.set, Go.Ev.look, Go.Ev.cellsAt, Go.Ev.loadC, Go.Ev.bin_lss, List.length_map, ↓Go.Ev.obind, Go.Ev.it1, ↓reduceIte, List.getElem?_cons_zero, List.drop_succ_cons, List.drop_zero, List.head?_cons, Nat.reduceEqDiff, decide_false, Bool.false_eq_true, Nat.zero_add, eq_self]
    exact ⟨_, rfl, rfl, rfl, rfl, by rw [← hr]; rfl⟩
theorem ref19_Lookahead_ev (h : CfgOk c) : callZ (evL T) n_ref19_Lookahead [(.agg [(.fsl ((c.lps).map lpC) false), (.fsl ((c.progs).map progC) false), (.v (.int .i64 (c.look))), (.v (.int .i64 (c.fin))), (.v (.int .i64 (c.cap)))])] = some (.v (.int .i64 (lookZ c))) := by
  have v := ref19_Check_ev (withLook c 1)
  rw [rcfgZ_eq] at v
  obtain ⟨⟨y, e, σ⟩, k1, k2, k3, k4, k5⟩ := rlook_outer c h
  simp only at k2 k3 k4 k5
  subst k2; subst k4
  unfold lookZ
  simp only [withLook] at v ⊢
  rw [callZ, evL_code ext_ref19_Lookahead code_ref19_Lookahead]
  by_cases hz : cfgZ { c with look := 1 } = 0
  · rw [hz] at v
    simp only [c_ref19_Lookahead, v, hz, k1, k3, k5, lps_lo, progs_lo, Go.Ev.runFunc, Go.Ev.exec, Go.Ev.evOpers, Go.Ev.evOper, Go.Ev.item_op, Go.Ev.item_P, Go.Ev.evOp, Go.Ev.evs, Go.Ev.Opnd.ev, Go.Ev.Env.get, Go.Ev.Env.set, Go.Ev.look, Go.Ev.argVars, Go.Ev.cellsAt, Go.Ev.loadC, Go.Ev.AV.cells, Go.Ev.AV.uc, Go.Ev.plains, Go.Ev.AV.plain, Go.Ev.bin_neq, Go.Ev.resVals, Go.Ev.resVal, Go.Ev.resOf, Go.Ev.kill, Go.Ev.leave, Go.Ev.settle, Go.Ev.keep, Go.Ev.varsLo, Go.Ev.marksLo, Go.Ev.storeLo, Go.Ev.SObj.lo, Go.Ev.lo_v, Go.Ev.lo_agg, Go.Ev.lo_fsl, Go.Ev.lo_ptr, Go.Ev.los_nil, Go.Ev.los_cons, Go.Ev.loss_nil, Go.Ev.loss_cons, Go.Ev.frz_lo, ↓Go.Ev.obind, ↓Go.Ev.itL_itB, ↓reduceIte, List.length_cons, List.length_nil, List.getElem?_cons_zero, List.take_succ_cons, List.take_zero, List.take_nil, List.drop_succ_cons, List.drop_zero, List.cons_append, List.nil_append, List.set_cons_zero, Nat.reduceAdd, Nat.reduceEqDiff, Nat.reduceLeDiff, decide_true, decide_false, Bool.and_self, Bool.false_eq_true, and_self, ne_eq, not_false_eq_true, not_true_eq_false, List.cons_ne_nil, Nat.zero_add, Nat.lt_add_one, Nat.le_refl, eq_self]
  · simp only [c_ref19_Lookahead, v, hz, lps_lo, progs_lo, Go.Ev.runFunc, Go.Ev.exec, Go.Ev.evOpers, Go.Ev.evOper, Go.Ev.item_op, Go.Ev.item_P, Go.Ev.evOp, Go.Ev.evs, Go.Ev.Opnd.ev, Go.Ev.Env.get, Go.Ev.Env.set, Go.Ev.look, Go.Ev.argVars, Go.Ev.cellsAt, Go.Ev.loadC, Go.Ev.AV.cells, Go.Ev.AV.uc, Go.Ev.plains, Go.Ev.AV.plain, Go.Ev.bin_neq, Go.Ev.resVals, Go.Ev.resVal, Go.Ev.resOf, Go.Ev.kill, Go.Ev.leave, Go.Ev.storeLo, Go.Ev.lo_v, Go.Ev.lo_agg, Go.Ev.lo_fsl, Go.Ev.los_nil, Go.Ev.los_cons, Go.Ev.frz_lo, ↓Go.Ev.obind, ↓reduceIte, List.length_cons, List.length_nil, List.getElem?_cons_zero, List.take_succ_cons, List.take_zero, List.take_nil, List.drop_succ_cons, List.drop_zero, List.cons_append, List.nil_append, List.set_cons_zero, Nat.reduceAdd, Nat.reduceEqDiff, Nat.reduceLeDiff, decide_true, Bool.and_self, and_self, ne_eq, not_false_eq_true, List.cons_ne_nil, Nat.zero_add, Nat.le_refl, eq_self]
theorem law_ConfigMatchesReference : callZ (evL T) n_law19_ConfigMatchesReference [(.agg [(.fsl ((c.lps).map lpC) false), (.fsl ((c.progs).map progC) false), (.v (.int .i64 (c.look))), (.v (.int .i64 (c.fin))), (.v (.int .i64 (c.cap)))])] = some (.v (.bool (true))) := by
  have hg := law19_Great_ev c
  rw [callZ, evL_code ext_law19_ConfigMatchesReference code_law19_ConfigMatchesReference]
  cases hgr : greatB c with
  | true =>
    rw [hgr] at hg
    simp only [c_law19_ConfigMatchesReference, law19_head_ev, hg, lps_lo, progs_lo, Go.Ev.runFunc, Go.Ev.exec, Go.Ev.evOpers, Go.Ev.evOper, Go.Ev.item_op, Go.Ev.item_P, Go.Ev.evOp, Go.Ev.evs, Go.Ev.Opnd.ev, Go.Ev.Env.get, Go.Ev.Env.set, Go.Ev.look, Go.Ev.argVars, Go.Ev.cellsAt, Go.Ev.loadC, Go.Ev.AV.cells, Go.Ev.plains, Go.Ev.AV.plain, Go.Ev.resVals, Go.Ev.resVal, Go.Ev.resOf, Go.Ev.kill, Go.Ev.leave, Go.Ev.storeLo, Go.Ev.lo_v, Go.Ev.lo_agg, Go.Ev.lo_fsl, Go.Ev.los_nil, Go.Ev.los_cons, Go.Ev.frz_lo, ↓Go.Ev.obind, ↓reduceIte, List.length_cons, List.length_nil, List.take_succ_cons, List.take_nil, Nat.reduceAdd, Nat.reduceEqDiff, Bool.and_self, and_self, ne_eq, not_false_eq_true, List.cons_ne_nil, Nat.zero_add, Nat.le_refl, eq_self]
  | false =>
    rw [hgr] at hg
    obtain ⟨hok, g1, g2, g3, g4⟩ := great_ok c hgr
    have h12 : Small12 c := ⟨g1, g3⟩
    have hk := config_Check_ev c hok
    have hr := ref19_Check_ev c
    rw [rcfgZ_eq] at hr
    have l1 := config_Lookahead_ev c hok
    have l2 := ref19_Lookahead_ev c hok
    by_cases hz : cfgZ c = 0
    · rw [hz] at hk hr
      have i1 := config_Initial_ev c h12
      obtain ⟨cf, i2⟩ := ref19_Initial_ev c h12
      have s1 := config_States_ev c h12
      have s2 := ref19_States_ev c h12
      have hlen : (sortL (initL c.lps)).length ≤ 9223372036854775807 := by
        rw [(sortL_perm _).length_eq]; have := h12.len c.lps.length; rw [List.take_length] at this; omega
      have hks : ∀ x ∈ sortL (initL c.lps), x.key.length ≤ 9223372036854775807 := fun x hx => initL_keys _ x ((sortL_perm _).mem_iff.1 hx)
      have e1 := SameEvents_ev (sortL (initL c.lps)) (sortL (initL c.lps)) false cf hlen hlen hks hks
      have hsl : (statesL c.lps).length ≤ 9223372036854775807 := by simp [statesL, stPs]; omega
      have hss : ∀ x ∈ statesL c.lps, x.1.Short := by
        intro x hx
        simp only [statesL, stPs, List.mem_map] at hx
        obtain ⟨_, ⟨l, hl, rfl⟩, rfl⟩ := hx
        refine ⟨by have := g3 l hl; simp [stLp]; omega, fun q hq => ?_⟩
        simp only [stLp, List.mem_map] at hq
        obtain ⟨s, _, rfl⟩ := hq
        simp [stP]
      have e2 := SameLPs_ev (statesL c.lps) (statesL c.lps) false false hsl hsl hss hss
      simp only [decide_true] at e1 e2
      simp only [c_law19_ConfigMatchesReference, law19_head_ev, hg, hk, hr, l1, l2, i1, i2, s1, s2, e1, e2, lps_lo, progs_lo, evts_lo, lpFs_lo, Go.Ev.runFunc, Go.Ev.exec, Go.Ev.evOpers, Go.Ev.evOper, Go.Ev.item_op, Go.Ev.item_P, Go.Ev.evOp, Go.Ev.evs, Go.Ev.Opnd.ev, Go.Ev.Env.get, Go.Ev.Env.set, Go.Ev.look, Go.Ev.argVars, Go.Ev.cellsAt, Go.Ev.loadC, Go.Ev.AV.cells, Go.Ev.plains, Go.Ev.AV.plain, Go.Ev.bin_neq, Go.Ev.resVals, Go.Ev.resVal, Go.Ev.resOf, Go.Ev.kill, Go.Ev.leave, Go.Ev.storeLo, Go.Ev.lo_v, Go.Ev.lo_agg, Go.Ev.lo_fsl, Go.Ev.los_nil, Go.Ev.los_cons, Go.Ev.frz_lo, ↓Go.Ev.obind, ↓reduceIte, List.length_cons, List.length_nil, List.take_succ_cons, List.take_nil, Nat.reduceAdd, Nat.reduceEqDiff, decide_false, Bool.and_self, Bool.false_eq_true, and_self, ne_eq, not_false_eq_true, not_true_eq_false, List.cons_ne_nil, Nat.zero_add, Nat.le_refl, eq_self]
    · simp only [c_law19_ConfigMatchesReference, law19_head_ev, hg, hk, hr, l1, l2, hz, lps_lo, progs_lo, Go.Ev.runFunc, Go.Ev.exec, Go.Ev.evOpers, Go.Ev.evOper, Go.Ev.item_op, Go.Ev.item_P, Go.Ev.evOp, Go.Ev.evs, Go.Ev.Opnd.ev, Go.Ev.Env.get, Go.Ev.Env.set, Go.Ev.Env.unset, Go.Ev.look, Go.Ev.argVars, Go.Ev.cellsAt, Go.Ev.loadC, Go.Ev.AV.cells, Go.Ev.plains, Go.Ev.AV.plain, Go.Ev.bin_neq, Go.Ev.resVals, Go.Ev.resVal, Go.Ev.resOf, Go.Ev.kill, Go.Ev.leave, Go.Ev.storeLo, Go.Ev.lo_v, Go.Ev.lo_agg, Go.Ev.lo_fsl, Go.Ev.los_nil, Go.Ev.los_cons, Go.Ev.frz_lo, ↓Go.Ev.obind, ↓reduceIte, List.length_cons, List.length_nil, List.take_succ_cons, List.take_nil, Nat.reduceAdd, Nat.reduceEqDiff, decide_true, decide_false, Bool.and_self, Bool.false_eq_true, Bool.true_eq_false, and_self, ne_eq, not_false_eq_true, not_true_eq_false, List.cons_ne_nil, Nat.zero_add, Nat.le_refl, eq_self]
end
end Go.Proofs.Ytlcakphdkpdenaa.K
