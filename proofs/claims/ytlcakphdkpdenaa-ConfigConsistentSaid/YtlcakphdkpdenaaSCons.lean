/- Part of the proofs about this seat's program (module SCons). -/
import Derived.Test.YtlcakphdkpdenaaSCR
set_option linter.unusedSectionVars false
set_option linter.unusedSimpArgs false
set_option linter.unusedVariables false
namespace Go.Proofs.Ytlcakphdkpdenaa.K
open Go.Ev
set_option linter.unusedSimpArgs false
set_option linter.unusedVariables false
set_option maxRecDepth 10000
section
variable (c : Cfg)
theorem states_at {k : Nat} {l : List Start} (h : c.lps[k]? = some l) : (statesL c.lps)[k]? = some (stLp (l.map stP)) := by
  simp only [statesL, stPs, List.getElem?_map, h, Option.map_some]
theorem states_len : (statesL c.lps).length = c.lps.length := by simp [statesL, stPs]
theorem cons_l1 (h : Small12 c) :
    ∃ y, itB (exec (evL T) itL none c_law19_ConfigConsistent_L1) (Ev.settle [1, 3, 4, 5, 6, 7] true 0) ⟨[(1, (.fptr [(.fsl ((c.lps).map lpC) false), (.fsl ((c.progs).map progC) false), (.v (.int .i64 (c.look))), (.v (.int .i64 (c.fin))), (.v (.int .i64 (c.cap)))])), (3, (.v (.bool (true)))), (4, (.fsl ((sortL (initL c.lps)).map Evt.r) false)), (5, (.fsl ((statesL c.lps).map lpF) false)), (6, (.v (.int .i64 (0)))), (7, (.v (.int .i64 (0))))], []⟩ [] = some y ∧
      y.1 = .exit 0 ∧ y.2.1.marks = [] ∧ y.2.2 = [] ∧ Ev.look y.2.1.vars 1 = some (.fptr [(.fsl ((c.lps).map lpC) false), (.fsl ((c.progs).map progC) false), (.v (.int .i64 (c.look))), (.v (.int .i64 (c.fin))), (.v (.int .i64 (c.cap)))]) ∧ Ev.look y.2.1.vars 3 = some (.v (.bool (true))) ∧ Ev.look y.2.1.vars 4 = some (.fsl ((sortL (initL c.lps)).map Evt.r) false) ∧ Ev.look y.2.1.vars 5 = some (.fsl ((statesL c.lps).map lpF) false) ∧ Ev.look y.2.1.vars 6 = some (.v (.int .i64 ((initL c.lps).length))) := by
  have hlps := h.lps
  have := itB_for (f := exec (evL T) itL none c_law19_ConfigConsistent_L1) (s := Ev.settle [1, 3, 4, 5, 6, 7] true 0) (α := Unit) (fun j _ => ⟨[(1, (.fptr [(.fsl ((c.lps).map lpC) false), (.fsl ((c.progs).map progC) false), (.v (.int .i64 (c.look))), (.v (.int .i64 (c.fin))), (.v (.int .i64 (c.cap)))])), (3, (.v (.bool (true)))), (4, (.fsl ((sortL (initL c.lps)).map Evt.r) false)), (5, (.fsl ((statesL c.lps).map lpF) false)), (6, (.v (.int .i64 ((initL (c.lps.take j)).length)))), (7, (.v (.int .i64 ((j : Int)))))], []⟩) (fun _ _ => [])
    (fun _ _ => True) c.lps.length (fun y => y.1 = .exit 0 ∧ y.2.1.marks = [] ∧ y.2.2 = [] ∧ Ev.look y.2.1.vars 1 = some (.fptr [(.fsl ((c.lps).map lpC) false), (.fsl ((c.progs).map progC) false), (.v (.int .i64 (c.look))), (.v (.int .i64 (c.fin))), (.v (.int .i64 (c.cap)))]) ∧ Ev.look y.2.1.vars 3 = some (.v (.bool (true))) ∧ Ev.look y.2.1.vars 4 = some (.fsl ((sortL (initL c.lps)).map Evt.r) false) ∧ Ev.look y.2.1.vars 5 = some (.fsl ((statesL c.lps).map lpF) false) ∧ Ev.look y.2.1.vars 6 = some (.v (.int .i64 ((initL c.lps).length)))) ?_ ?_ 0 () (Nat.zero_le _) trivial
  · exact this
  · rintro j _ hj _
    obtain ⟨p, hx⟩ : ∃ x, c.lps[j]? = some x := ⟨_, List.getElem?_eq_getElem hj⟩
    have hs := states_at c hx
    have hj' : (j : Int) < (c.lps.length : Int) := by omega
    have hw : IntKind.i64.wrap ((j : Int) + 1) = ((j + 1 : Nat) : Int) := by rw [w64_small (by omega) (by omega)]; simp
    have hl := h.len j
    have hp := h.lp p (List.mem_of_getElem? hx)
    have hn : (initL (c.lps.take (j + 1))).length = (initL (c.lps.take j)).length + p.length := by rw [initL_take hx, List.length_append, initLp_len]
    have hw2 : IntKind.i64.wrap (((initL (c.lps.take j)).length : Int) + (p.length : Int)) = (((initL (c.lps.take j)).length + p.length : Nat) : Int) := w64_add (by omega)
    refine .inl ⟨(), ?_, trivial⟩
    simp only [hn]
    generalize (initL (c.lps.take j)).length = m at hw2 ⊢
    simp only [c_law19_ConfigConsistent_L1, Int.natCast_nonneg, Int.toNat_natCast, List.getElem?_map, Option.map_some, hs, hj', hw, hw2, states_len, stLp, lpF, lps_lo, progs_lo, evts_lo, lpFs_lo, Go.Ev.exec, Go.Ev.evOpers, Go.Ev.evOper, Go.Ev.item_op, Go.Ev.evOp, Go.Ev.Opnd.ev, Go.Ev.Env.get, Go.Ev.Env.set, Go.Ev.look, Go.Ev.cellsAt, Go.Ev.loadC, Go.Ev.bin_add, Go.Ev.bin_lss, Go.Ev.settle, Go.Ev.keep, Go.Ev.varsLo, Go.Ev.marksLo, Go.Ev.storeLo, Go.Ev.lo_v, Go.Ev.lo_fsl, Go.Ev.lo_fptr, Go.Ev.los_nil, Go.Ev.los_cons, List.length_map, ↓Go.Ev.obind, Go.Ev.it1, ↓reduceIte, List.length_cons, List.length_nil, List.take_nil, List.drop_succ_cons, List.drop_zero, List.head?_cons, Nat.reduceAdd, Nat.reduceEqDiff, decide_true, Bool.and_self, Bool.false_eq_true, and_self, Nat.zero_add, eq_self]
  · rintro _ _
    rw [List.take_length]
    simp only [c_law19_ConfigConsistent_L1, states_len, Int.lt_irrefl, Go.Ev.exec, Go.Ev.evOpers, Go.Ev.evOper, Go.Ev.item_op, Go.Ev.evOp, Go.Ev.Opnd.ev, Go.Ev.Env.get, Go.Ev.Env.set, Go.Ev.look, Go.Ev.bin_lss, List.length_map, ↓Go.Ev.obind, Go.Ev.it1, ↓reduceIte, Nat.reduceEqDiff, decide_false, Bool.false_eq_true, eq_self]
    exact ⟨_, rfl, rfl, rfl, rfl, rfl, rfl, rfl, rfl, rfl⟩
/-- What an event of the list is, and what it is beside one before it. -/
theorem cons_pair {i j : Nat} {x y : Evt} (hx : (sortL (initL c.lps))[i]? = some x) (hy : (sortL (initL c.lps))[j]? = some y) (hij : j < i) : ¬ y.key = x.key ∧ ¬ (y.lp = x.lp ∧ y.proc = x.proc) ∧ ¬ cmpE y x > 0 := by
  obtain ⟨hi', hx'⟩ := List.getElem?_eq_some_iff.1 hx
  obtain ⟨hj', hy'⟩ := List.getElem?_eq_some_iff.1 hy
  have hd : Dist (sortL (initL c.lps)) := (initL_dist c.lps).perm (sortL_perm _)
  have hs := sortL_sorted (initL c.lps)
  rw [Dist, List.pairwise_iff_getElem] at hd
  rw [List.pairwise_iff_getElem] at hs
  have d := hd j i hj' hi' hij
  have s := hs j i hj' hi' hij
  rw [hx', hy'] at d s
  obtain ⟨k, l, a, st, h1, h2, rfl⟩ := initL_mem ((sortL_perm _).mem_iff.1 (List.mem_of_getElem? hx))
  obtain ⟨k', l', a', st', h1', h2', rfl⟩ := initL_mem ((sortL_perm _).mem_iff.1 (List.mem_of_getElem? hy))
  have key : ¬ (k' = k ∧ a' = a) := by
    rintro ⟨rfl, rfl⟩
    rw [h1'] at h1; cases h1
    rw [h2'] at h2; cases h2
    exact d ((cmpE_zero _ _).2 ⟨rfl, rfl⟩)
  refine ⟨fun e => key ?_, fun e => key ?_, by unfold leE at s; omega⟩
  · simp only [initEv, List.cons.injEq, and_true] at e; omega
  · simp only [initEv] at e; omega
theorem cons_l3 (h : Small12 c) (i : Nat) (x : Evt) (p : Pr) (hx : (sortL (initL c.lps))[i]? = some x) (hlt : i < 1000000) :
    ∃ y, itB (exec (evL T) itL none c_law19_ConfigConsistent_L3) (Ev.settle [1, 3, 4, 5, 8, 9, 11] true 2) ⟨[(1, (.fptr [(.fsl ((c.lps).map lpC) false), (.fsl ((c.progs).map progC) false), (.v (.int .i64 (c.look))), (.v (.int .i64 (c.fin))), (.v (.int .i64 (c.cap)))])), (3, (.v (.bool (true)))), (4, (.fsl ((sortL (initL c.lps)).map Evt.r) false)), (5, (.fsl ((statesL c.lps).map lpF) false)), (8, (.v (.int .i64 (i)))), (9, .ptr 0 0 0 0), (11, (.v (.int .i64 (0))))], []⟩ [.row 6 [x.r] 0, .row 4 [p.r] 0] = some y ∧
      y.1 = .exit 4 ∧ y.2.1.marks = [] ∧ y.2.2 = [.row 6 [x.r] 0, .row 4 [p.r] 0] ∧ Ev.look y.2.1.vars 1 = some (.fptr [(.fsl ((c.lps).map lpC) false), (.fsl ((c.progs).map progC) false), (.v (.int .i64 (c.look))), (.v (.int .i64 (c.fin))), (.v (.int .i64 (c.cap)))]) ∧ Ev.look y.2.1.vars 3 = some (.v (.bool (true))) ∧ Ev.look y.2.1.vars 4 = some (.fsl ((sortL (initL c.lps)).map Evt.r) false) ∧ Ev.look y.2.1.vars 5 = some (.fsl ((statesL c.lps).map lpF) false) ∧ Ev.look y.2.1.vars 8 = some (.v (.int .i64 (i))) := by
  have hil : i < (sortL (initL c.lps)).length := (List.getElem?_eq_some_iff.1 hx).1
  have hks : ∀ x ∈ sortL (initL c.lps), x.key.length ≤ 9223372036854775807 := fun x hx => initL_keys _ x ((sortL_perm _).mem_iff.1 hx)
  have hxk := hks x (List.mem_of_getElem? hx)
  have := itB_for (f := exec (evL T) itL none c_law19_ConfigConsistent_L3) (s := Ev.settle [1, 3, 4, 5, 8, 9, 11] true 2) (α := Unit) (fun j _ => ⟨[(1, (.fptr [(.fsl ((c.lps).map lpC) false), (.fsl ((c.progs).map progC) false), (.v (.int .i64 (c.look))), (.v (.int .i64 (c.fin))), (.v (.int .i64 (c.cap)))])), (3, (.v (.bool (true)))), (4, (.fsl ((sortL (initL c.lps)).map Evt.r) false)), (5, (.fsl ((statesL c.lps).map lpF) false)), (8, (.v (.int .i64 (i)))), (9, .ptr 0 0 0 0), (11, (.v (.int .i64 ((j : Int)))))], []⟩) (fun _ _ => [.row 6 [x.r] 0, .row 4 [p.r] 0])
    (fun _ _ => True) i (fun y => y.1 = .exit 4 ∧ y.2.1.marks = [] ∧ y.2.2 = [.row 6 [x.r] 0, .row 4 [p.r] 0] ∧ Ev.look y.2.1.vars 1 = some (.fptr [(.fsl ((c.lps).map lpC) false), (.fsl ((c.progs).map progC) false), (.v (.int .i64 (c.look))), (.v (.int .i64 (c.fin))), (.v (.int .i64 (c.cap)))]) ∧ Ev.look y.2.1.vars 3 = some (.v (.bool (true))) ∧ Ev.look y.2.1.vars 4 = some (.fsl ((sortL (initL c.lps)).map Evt.r) false) ∧ Ev.look y.2.1.vars 5 = some (.fsl ((statesL c.lps).map lpF) false) ∧ Ev.look y.2.1.vars 8 = some (.v (.int .i64 (i)))) ?_ ?_ 0 () (Nat.zero_le _) trivial
  · exact this
  · rintro j _ hj _
    obtain ⟨y, hy⟩ : ∃ y, (sortL (initL c.lps))[j]? = some y := ⟨_, List.getElem?_eq_getElem (by omega)⟩
    have hj' : (j : Int) < (i : Int) := by omega
    have hw : IntKind.i64.wrap ((j : Int) + 1) = ((j + 1 : Nat) : Int) := by rw [w64_small (by omega) (by omega)]; simp
    obtain ⟨d1, d2, d3⟩ := cons_pair c hx hy hj
    have hyk := hks y (List.mem_of_getElem? hy)
    have sk := SameKey_ev y.key x.key false false hyk hxk
    rw [decide_eq_false d1] at sk
    have ce := ref03_CompareEvents_ev y x hyk hxk
    obtain ⟨xt, xk, xl, xi, xp, xa⟩ := x
    obtain ⟨yt, yk, yl, yi, yp, ya⟩ := y
    simp only at sk ce d2
    refine .inl ⟨(), ?_, trivial⟩
    by_cases e1 : yl = xl
    · have e2 : ¬ yp = xp := fun e => d2 ⟨e1, e⟩
      subst e1
      simp only [c_law19_ConfigConsistent_L3, Int.natCast_nonneg, Int.toNat_natCast, List.getElem?_map, Option.map_some, hy, hj', hw, sk, ce, d3, e2, Evt.r, Pr.r, lps_lo, progs_lo, evts_lo, lpFs_lo, ints_lo, Go.Ev.exec, Go.Ev.evOpers, Go.Ev.evOper, Go.Ev.item_op, Go.Ev.item_P, Go.Ev.evOp, Go.Ev.evs, Go.Ev.Opnd.ev, Go.Ev.Env.get, Go.Ev.Env.set, Go.Ev.look, Go.Ev.cellsAt, Go.Ev.loadC, Go.Ev.bin_add, Go.Ev.bin_eql, Go.Ev.bin_lss, Go.Ev.bin_gtr, Go.Ev.settle, Go.Ev.keep, Go.Ev.varsLo, Go.Ev.marksLo, Go.Ev.storeLo, Go.Ev.SObj.lo, Go.Ev.lo_v, Go.Ev.lo_agg, Go.Ev.lo_fsl, Go.Ev.lo_fptr, Go.Ev.lo_ptr, Go.Ev.los_nil, Go.Ev.los_cons, Go.Ev.loss_nil, Go.Ev.loss_cons, ↓Go.Ev.obind, Go.Ev.it1, ↓reduceIte, List.length_cons, List.length_nil, List.getElem?_cons_zero, List.take_succ_cons, List.take_nil, List.drop_succ_cons, List.drop_zero, List.head?_cons, Nat.reduceAdd, Nat.reduceEqDiff, Nat.reduceLT, decide_true, decide_false, Bool.and_self, Bool.false_eq_true, and_self, Nat.zero_add, Nat.le_refl, eq_self]
    · simp only [c_law19_ConfigConsistent_L3, Int.natCast_nonneg, Int.toNat_natCast, List.getElem?_map, Option.map_some, hy, hj', hw, sk, ce, d3, e1, Evt.r, Pr.r, lps_lo, progs_lo, evts_lo, lpFs_lo, ints_lo, Go.Ev.exec, Go.Ev.evOpers, Go.Ev.evOper, Go.Ev.item_op, Go.Ev.item_P, Go.Ev.evOp, Go.Ev.evs, Go.Ev.Opnd.ev, Go.Ev.Env.get, Go.Ev.Env.set, Go.Ev.Env.unset, Go.Ev.look, Go.Ev.cellsAt, Go.Ev.loadC, Go.Ev.bin_add, Go.Ev.bin_eql, Go.Ev.bin_lss, Go.Ev.bin_gtr, Go.Ev.settle, Go.Ev.keep, Go.Ev.varsLo, Go.Ev.marksLo, Go.Ev.storeLo, Go.Ev.SObj.lo, Go.Ev.lo_v, Go.Ev.lo_agg, Go.Ev.lo_fsl, Go.Ev.lo_fptr, Go.Ev.lo_ptr, Go.Ev.los_nil, Go.Ev.los_cons, Go.Ev.loss_nil, Go.Ev.loss_cons, ↓Go.Ev.obind, Go.Ev.it1, ↓reduceIte, List.length_cons, List.length_nil, List.getElem?_cons_zero, List.take_succ_cons, List.take_nil, List.drop_succ_cons, List.drop_zero, List.head?_cons, Nat.reduceAdd, Nat.reduceEqDiff, Nat.reduceLT, decide_true, decide_false, Bool.and_self, Bool.false_eq_true, and_self, Nat.zero_add, Nat.le_refl, eq_self]
  · rintro _ _
    simp only [c_law19_ConfigConsistent_L3, Int.lt_irrefl, Go.Ev.exec, Go.Ev.evOpers, Go.Ev.evOper, Go.Ev.item_op, Go.Ev.evOp, Go.Ev.Opnd.ev, Go.Ev.Env.get, Go.Ev.Env.set, Go.Ev.look, Go.Ev.bin_lss, ↓Go.Ev.obind, Go.Ev.it1, ↓reduceIte, Nat.reduceEqDiff, decide_false, Bool.false_eq_true, eq_self]
    exact ⟨_, rfl, rfl, rfl, rfl, rfl, rfl, rfl, rfl, rfl⟩
theorem cons_l2 (h : Small12 c) :
    ∃ y, itB (exec (evL T) itL none c_law19_ConfigConsistent_L2) (Ev.settle [1, 3, 4, 5, 8] true 0) ⟨[(1, (.fptr [(.fsl ((c.lps).map lpC) false), (.fsl ((c.progs).map progC) false), (.v (.int .i64 (c.look))), (.v (.int .i64 (c.fin))), (.v (.int .i64 (c.cap)))])), (3, (.v (.bool (true)))), (4, (.fsl ((sortL (initL c.lps)).map Evt.r) false)), (5, (.fsl ((statesL c.lps).map lpF) false)), (8, (.v (.int .i64 (0))))], []⟩ [] = some y ∧
      y.1 = .exit 2 ∧ y.2.1.marks = [] ∧ y.2.2 = [] ∧ Ev.look y.2.1.vars 3 = some (.v (.bool (true))) := by
  have hlen : (sortL (initL c.lps)).length ≤ 144 := by
    rw [(sortL_perm _).length_eq]; have := h.len c.lps.length; rw [List.take_length] at this; exact this
  have := itB_for (f := exec (evL T) itL none c_law19_ConfigConsistent_L2) (s := Ev.settle [1, 3, 4, 5, 8] true 0) (α := Unit) (fun j _ => ⟨[(1, (.fptr [(.fsl ((c.lps).map lpC) false), (.fsl ((c.progs).map progC) false), (.v (.int .i64 (c.look))), (.v (.int .i64 (c.fin))), (.v (.int .i64 (c.cap)))])), (3, (.v (.bool (true)))), (4, (.fsl ((sortL (initL c.lps)).map Evt.r) false)), (5, (.fsl ((statesL c.lps).map lpF) false)), (8, (.v (.int .i64 ((j : Int)))))], []⟩) (fun _ _ => [])
    (fun _ _ => True) (sortL (initL c.lps)).length (fun y => y.1 = .exit 2 ∧ y.2.1.marks = [] ∧ y.2.2 = [] ∧ Ev.look y.2.1.vars 3 = some (.v (.bool (true)))) ?_ ?_ 0 () (Nat.zero_le _) trivial
  · exact this
  · rintro j _ hj _
    obtain ⟨x, hx⟩ : ∃ y, (sortL (initL c.lps))[j]? = some y := ⟨_, List.getElem?_eq_getElem (by omega)⟩
    have hj' : (j : Int) < ((sortL (initL c.lps)).length : Int) := by omega
    have hw : IntKind.i64.wrap ((j : Int) + 1) = ((j + 1 : Nat) : Int) := by rw [w64_small (by omega) (by omega)]; simp
    obtain ⟨k, l, a, st, h1, h2, rfl⟩ := initL_mem ((sortL_perm _).mem_iff.1 (List.mem_of_getElem? hx))
    have hs := states_at c h1
    have kl : k < c.lps.length := (List.getElem?_eq_some_iff.1 h1).1
    have al : a < l.length := (List.getElem?_eq_some_iff.1 h2).1
    obtain ⟨⟨y, e, σ⟩, k1, k2, k3, k4, k5, k6, k7, k8, k9⟩ := cons_l3 c h j (initEv k a st) (stP st) hx (by omega)
    simp only at k1 k2 k3 k4 k5 k6 k7 k8 k9
    subst k2; subst k4
    have c1 : ¬ (k : Int) < 0 := by omega
    have c2 : ¬ (k : Int) ≥ (c.lps.length : Int) := by omega
    have c3 : ¬ (a : Int) < 0 := by omega
    have c4 : ¬ (a : Int) ≥ (l.length : Int) := by omega
    obtain ⟨sp, stt⟩ := st
    simp only [initEv, Evt.r, stP, Pr.r, List.map_nil] at k1 hx
    refine .inl ⟨(), ?_, trivial⟩
    have hkl : ∀ n, loss n ([(k : Int), (a : Int)].map intC) = true := fun n => ints_lo n _
    generalize hkey : [(k : Int), (a : Int)] = kk at hx hkl k1
    simp only [c_law19_ConfigConsistent_L2, Int.natCast_nonneg, Int.toNat_natCast, List.getElem?_map, Option.map_some, hx, hj', hw, hs, h1, h2, c1, c2, c3, c4, k1, k3, k5, k6, k7, k8, k9, hkl, states_len, stLp, lpF, stP, lpC, List.map_nil, Evt.r, Pr.r, Start.r, lps_lo, progs_lo, evts_lo, lpFs_lo, Go.Ev.exec, Go.Ev.evOpers, Go.Ev.evOper, Go.Ev.item_op, Go.Ev.evOp, Go.Ev.Opnd.ev, Go.Ev.Env.get, Go.Ev.Env.set, Go.Ev.look, Go.Ev.cellsAt, Go.Ev.loadC, Go.Ev.AV.cells, Go.Ev.plains, Go.Ev.AV.plain, Go.Ev.bin_add, Go.Ev.bin_neq, Go.Ev.bin_lss, Go.Ev.bin_geq, Go.Ev.settle, Go.Ev.keep, Go.Ev.varsLo, Go.Ev.marksLo, Go.Ev.storeLo, Go.Ev.SObj.lo, Go.Ev.lo_v, Go.Ev.lo_fsl, Go.Ev.lo_fptr, Go.Ev.lo_ptr, Go.Ev.los_nil, Go.Ev.los_cons, Go.Ev.loss_nil, Go.Ev.loss_cons, List.length_map, ↓Go.Ev.obind, ↓Go.Ev.itL_itB, Go.Ev.it1, ↓reduceIte, List.length_cons, List.length_nil, List.getElem?_cons_zero, List.getElem?_cons_succ, List.take_succ_cons, List.take_zero, List.take_nil, List.drop_succ_cons, List.drop_zero, List.drop_nil, List.cons_append, List.nil_append, List.append_nil, List.set_cons_zero, List.set_cons_succ, List.head?_cons, Nat.reduceAdd, Nat.reduceEqDiff, Nat.reduceLT, Int.cast_ofNat_Int, decide_true, decide_false, Bool.and_self, Bool.not_true, Bool.false_eq_true, and_self, ne_eq, not_false_eq_true, not_true_eq_false, List.cons_ne_nil, Nat.zero_add, Nat.add_zero, Nat.le_refl, eq_self]
  · rintro _ _
    simp only [c_law19_ConfigConsistent_L2, Int.lt_irrefl, Go.Ev.exec, Go.Ev.evOpers, Go.Ev.evOper, Go.Ev.item_op, Go.Ev.evOp, Go.Ev.Opnd.ev, Go.Ev.Env.get, Go.Ev.Env.set, Go.Ev.look, Go.Ev.bin_lss, List.length_map, ↓Go.Ev.obind, Go.Ev.it1, ↓reduceIte, Nat.reduceEqDiff, decide_false, Bool.false_eq_true, eq_self]
    exact ⟨_, rfl, rfl, rfl, rfl, rfl⟩
theorem law_ConfigConsistent : callZ (evL T) n_law19_ConfigConsistent [(.agg [(.fsl ((c.lps).map lpC) false), (.fsl ((c.progs).map progC) false), (.v (.int .i64 (c.look))), (.v (.int .i64 (c.fin))), (.v (.int .i64 (c.cap)))])] = some (.v (.bool (true))) := by
  have hg := law19_Great_ev c
  rw [callZ, evL_code ext_law19_ConfigConsistent code_law19_ConfigConsistent]
  cases hgr : greatB c with
  | true =>
    rw [hgr] at hg
    simp only [c_law19_ConfigConsistent, law19_head_ev, hg, lps_lo, progs_lo, Go.Ev.runFunc, Go.Ev.exec, Go.Ev.evOpers, Go.Ev.evOper, Go.Ev.item_op, Go.Ev.item_P, Go.Ev.evOp, Go.Ev.evs, Go.Ev.Opnd.ev, Go.Ev.Env.get, Go.Ev.Env.set, Go.Ev.Env.unset, Go.Ev.look, Go.Ev.argVars, Go.Ev.cellsAt, Go.Ev.loadC, Go.Ev.AV.cells, Go.Ev.plains, Go.Ev.AV.plain, Go.Ev.resVals, Go.Ev.resVal, Go.Ev.resOf, Go.Ev.kill, Go.Ev.leave, Go.Ev.storeLo, Go.Ev.lo_v, Go.Ev.lo_agg, Go.Ev.lo_fsl, Go.Ev.los_nil, Go.Ev.los_cons, Go.Ev.frz_lo, ↓Go.Ev.obind, ↓reduceIte, List.length_cons, List.length_nil, List.take_succ_cons, List.take_nil, Nat.reduceAdd, Nat.reduceEqDiff, Bool.and_self, Bool.true_eq_false, and_self, ne_eq, not_false_eq_true, List.cons_ne_nil, Nat.zero_add, Nat.le_refl, eq_self]
  | false =>
    rw [hgr] at hg
    obtain ⟨hok, g1, g2, g3, g4⟩ := great_ok c hgr
    have h12 : Small12 c := ⟨g1, g3⟩
    have hr := ref19_Check_ev c
    rw [rcfgZ_eq] at hr
    by_cases hz : cfgZ c = 0
    · rw [hz] at hr
      have i1 := config_Initial_ev c h12
      have s1 := config_States_ev c h12
      have hlen : (sortL (initL c.lps)).length = (initL c.lps).length := (sortL_perm _).length_eq
      obtain ⟨⟨y, e, σ⟩, k1, k2, k3, k4, k5, k6, k7, k8, k9⟩ := cons_l1 c h12
      simp only at k1 k2 k3 k4 k5 k6 k7 k8 k9
      subst k2; subst k4
      obtain ⟨⟨y', e', σ'⟩, l1, l2, l3, l4, l5⟩ := cons_l2 c h12
      simp only at l1 l2 l3 l4 l5
      subst l2; subst l4
      simp only [c_law19_ConfigConsistent, law19_head_ev, hg, hr, i1, s1, hlen, k1, k3, k5, k6, k7, k8, k9, l1, l3, l5, states_len, lps_lo, progs_lo, evts_lo, lpFs_lo, Go.Ev.runFunc, Go.Ev.exec, Go.Ev.evOpers, Go.Ev.evOper, Go.Ev.item_op, Go.Ev.item_P, Go.Ev.evOp, Go.Ev.evs, Go.Ev.Opnd.ev, Go.Ev.Env.get, Go.Ev.Env.set, Go.Ev.look, Go.Ev.argVars, Go.Ev.cellsAt, Go.Ev.loadC, Go.Ev.AV.cells, Go.Ev.plains, Go.Ev.AV.plain, Go.Ev.bin_neq, Go.Ev.resVals, Go.Ev.resVal, Go.Ev.resOf, Go.Ev.kill, Go.Ev.leave, Go.Ev.settle, Go.Ev.keep, Go.Ev.varsLo, Go.Ev.marksLo, Go.Ev.storeLo, Go.Ev.lo_v, Go.Ev.lo_agg, Go.Ev.lo_fsl, Go.Ev.lo_fptr, Go.Ev.los_nil, Go.Ev.los_cons, Go.Ev.frz_lo, List.length_map, ↓Go.Ev.obind, ↓Go.Ev.itL_itB, ↓reduceIte, List.length_cons, List.length_nil, List.take_succ_cons, List.take_nil, List.drop_zero, List.head?_cons, Nat.reduceAdd, Nat.reduceEqDiff, decide_false, Bool.and_self, Bool.false_eq_true, and_self, ne_eq, not_false_eq_true, not_true_eq_false, List.cons_ne_nil, Nat.zero_add, Nat.le_refl, eq_self]
    · simp only [c_law19_ConfigConsistent, law19_head_ev, hg, hr, hz, lps_lo, progs_lo, Go.Ev.runFunc, Go.Ev.exec, Go.Ev.evOpers, Go.Ev.evOper, Go.Ev.item_op, Go.Ev.item_P, Go.Ev.evOp, Go.Ev.evs, Go.Ev.Opnd.ev, Go.Ev.Env.get, Go.Ev.Env.set, Go.Ev.look, Go.Ev.argVars, Go.Ev.cellsAt, Go.Ev.loadC, Go.Ev.AV.cells, Go.Ev.plains, Go.Ev.AV.plain, Go.Ev.bin_neq, Go.Ev.resVals, Go.Ev.resVal, Go.Ev.resOf, Go.Ev.kill, Go.Ev.leave, Go.Ev.storeLo, Go.Ev.lo_v, Go.Ev.lo_agg, Go.Ev.lo_fsl, Go.Ev.los_nil, Go.Ev.los_cons, Go.Ev.frz_lo, ↓Go.Ev.obind, ↓reduceIte, List.length_cons, List.length_nil, List.take_succ_cons, List.take_nil, Nat.reduceAdd, Nat.reduceEqDiff, decide_true, Bool.and_self, Bool.false_eq_true, and_self, ne_eq, not_false_eq_true, List.cons_ne_nil, Nat.zero_add, Nat.le_refl, eq_self]
end
end Go.Proofs.Ytlcakphdkpdenaa.K
