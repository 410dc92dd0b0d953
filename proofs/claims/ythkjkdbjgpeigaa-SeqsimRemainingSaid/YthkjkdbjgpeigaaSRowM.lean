/- For every input SeqsimRemaining returns true, and its arguments read as before. No conditions. -/
import Derived.Test.YthkjkdbjgpeigaaGA10
set_option linter.unusedSectionVars false
set_option linter.unusedSimpArgs false
set_option linter.unusedVariables false
namespace Go.Proofs.Ythkjkdbjgpeigaa.K
open Go.Ev
set_option linter.unusedSimpArgs false
set_option linter.unusedVariables false
set_option maxRecDepth 10000
theorem Pending_ev {c : Cfg} {n : Nat} (hn : c.lps.length = n) (G : Good c) (lim : Nat) (hlim : lim ≤ 60) : callZ (evL T) n_seqsim_Pending [(.agg [(.fsl ((c.lps).map lpC) false), (.fsl ((c.progs).map progC) false), (.v (.int .i64 (c.look))), (.v (.int .i64 (c.fin))), (.v (.int .i64 (c.cap)))]), (.v (.int .i64 (lim)))] = some (.fsl (((runS c lim).pend).map Evt.r) false) := by
  have hk := config_Check_ev c G.ok
  rw [G.z] at hk
  obtain ⟨A0, O0, S0, h0⟩ := start_ev (c := c) hn G.h12
  obtain ⟨L, A, O, S, h1⟩ := run_ev hn lim lim hlim (by show 0 + lim = lim; omega) (SInv.start G.v) S0
  have i1 := S0.imp (c := c)
  rw [callZ, evL_code ext_seqsim_Pending code_seqsim_Pending]
  unfold runS
  simp only [c_seqsim_Pending, pre_g2 S.len, hk, h0, i1, h1, lps_lo, progs_lo, evts_lo, Ev.runFunc, Ev.exec, Ev.evOpers, Ev.evOper, Ev.item_op, Ev.item_P, Ev.item_A, Ev.item_I, Ev.AV.shift, Ev.evOp, Ev.evs, Ev.Opnd.ev, Ev.Env.get, Ev.Env.set, Ev.look, Ev.argVars, Ev.cellsAt, Ev.loadC, Ev.AV.cells, Ev.plains, Ev.AV.plain, Ev.bin_neq, Ev.resVals, Ev.resVal, Ev.resOf, Ev.kill, Ev.leave, Ev.storeLo, Ev.lo_v, Ev.lo_agg, Ev.lo_fsl, Ev.los_nil, Ev.los_cons, Ev.frz_lo, ↓Ev.obind, ↓reduceIte, List.length_cons, List.length_nil, List.getElem?_cons_zero, List.getElem?_cons_succ, List.take_succ_cons, List.take_zero, List.take_nil, List.drop_succ_cons, List.drop_zero, List.nil_append, List.head?_cons, Nat.reduceAdd, Nat.reduceEqDiff, reduceCtorEq, decide_false, Bool.and_self, Bool.false_eq_true, and_self, ne_eq, not_false_eq_true, not_true_eq_false, List.cons_ne_nil, Nat.zero_add, Nat.add_zero, Nat.le_refl, eq_self]
section
variable {c : Cfg} {s : Sim} {h : List Evt}
theorem rem_l3 (H : RunF c s h) (i a : Nat) (e : Evt) (he : s.pend[i]? = some e) (x : List Evt) (hx : s.trace[a]? = some x) :
    ∃ y, itB (exec (evL T) itL none c_law21_SeqsimRemaining_L3) (Ev.settle [2, 5, 6, 8, 9, 10, 11, 12] true 0) ⟨[(2, (.fptr [(.fsl ((c.lps).map lpC) false), (.fsl ((c.progs).map progC) false), (.v (.int .i64 (c.look))), (.v (.int .i64 (c.fin))), (.v (.int .i64 (c.cap)))])), (5, (.v (.bool (true)))), (6, (.fsl ((s.trace).map evtsC) false)), (8, (.v (.int .i64 (errZ c s)))), (9, (.fsl ((s.pend).map Evt.r) false)), (10, (.v (.int .i64 (i)))), (11, (.v (.int .i64 (a)))), (12, (.v (.int .i64 ((0 : Nat)))))], []⟩ [] = some y ∧
      (y.1 = .exit 4 ∧ y.2.1.marks = [] ∧ y.2.2 = [] ∧ Ev.look y.2.1.vars 2 = some (.fptr [(.fsl ((c.lps).map lpC) false), (.fsl ((c.progs).map progC) false), (.v (.int .i64 (c.look))), (.v (.int .i64 (c.fin))), (.v (.int .i64 (c.cap)))]) ∧ Ev.look y.2.1.vars 5 = some (.v (.bool (true))) ∧ Ev.look y.2.1.vars 6 = some (.fsl ((s.trace).map evtsC) false) ∧ Ev.look y.2.1.vars 8 = some (.v (.int .i64 (errZ c s))) ∧ Ev.look y.2.1.vars 9 = some (.fsl ((s.pend).map Evt.r) false) ∧ Ev.look y.2.1.vars 10 = some (.v (.int .i64 (i))) ∧ Ev.look y.2.1.vars 11 = some (.v (.int .i64 (a)))) := by
  have hxl := H.rowLen hx
  have hxk := H.key hx
  have hek : e.key.length ≤ 9223372036854775807 := by
    have := (H.inv.ev e (List.mem_append_right _ (List.mem_of_getElem? he))).key
    have := H.len; omega
  refine itB_each x (fun b => ⟨[(2, (.fptr [(.fsl ((c.lps).map lpC) false), (.fsl ((c.progs).map progC) false), (.v (.int .i64 (c.look))), (.v (.int .i64 (c.fin))), (.v (.int .i64 (c.cap)))])), (5, (.v (.bool (true)))), (6, (.fsl ((s.trace).map evtsC) false)), (8, (.v (.int .i64 (errZ c s)))), (9, (.fsl ((s.pend).map Evt.r) false)), (10, (.v (.int .i64 (i)))), (11, (.v (.int .i64 (a)))), (12, (.v (.int .i64 (b))))], []⟩) [] _ ?_ ?_
  · intro b z hb hz
    have hb' : (b : Int) < (x.length : Int) := by omega
    have hw : IntKind.i64.wrap ((b : Int) + 1) = ((b + 1 : Nat) : Int) := by rw [w64_small (by omega) (by omega)]; simp
    have hzm := List.mem_of_getElem? hz
    have hne : ¬ z.key = e.key := by
      have := (List.pairwise_append.1 H.inv.keys).2.2 z (H.inv.mem hx z hzm).1 e (List.mem_of_getElem? he)
      exact this
    have sk := SameKey_ev z.key e.key false false (hxk z hzm) hek
    rw [decide_eq_false hne] at sk
    simp only [c_law21_SeqsimRemaining_L3, Int.natCast_nonneg, Int.toNat_natCast, List.getElem?_map, Option.map_some, hx, hz, he, hb', hw, sk, Evt.r, evtsC, lps_lo, progs_lo, evss_lo, evts_lo, ints_lo, Ev.exec, Ev.evOpers, Ev.evOper, Ev.item_op, Ev.item_P, Ev.evOp, Ev.evs, Ev.Opnd.ev, Ev.Env.get, Ev.Env.set, Ev.look, Ev.cellsAt, Ev.loadC, Ev.bin_add, Ev.bin_lss, Ev.settle, Ev.keep, Ev.varsLo, Ev.marksLo, Ev.storeLo, Ev.lo_v, Ev.lo_fsl, Ev.lo_fptr, Ev.los_nil, Ev.los_cons, List.length_map, ↓Ev.obind, Ev.it1, ↓reduceIte, List.length_cons, List.length_nil, List.take_nil, List.drop_succ_cons, List.drop_zero, List.head?_cons, Nat.reduceAdd, Nat.reduceEqDiff, decide_true, Bool.and_self, Bool.false_eq_true, and_self, Nat.zero_add, eq_self]
  · simp only [c_law21_SeqsimRemaining_L3, Int.natCast_nonneg, Int.toNat_natCast, List.getElem?_map, Option.map_some, hx, Int.lt_irrefl, evtsC, Ev.exec, Ev.evOpers, Ev.evOper, Ev.item_op, Ev.evOp, Ev.Opnd.ev, Ev.Env.get, Ev.Env.set, Ev.look, Ev.cellsAt, Ev.loadC, Ev.bin_lss, List.length_map, ↓Ev.obind, Ev.it1, ↓reduceIte, List.length_cons, List.length_nil, List.head?_cons, Nat.reduceEqDiff, decide_false, Bool.false_eq_true, Nat.zero_add, eq_self]
    exact ⟨_, rfl, rfl, rfl, rfl, rfl, rfl, rfl, rfl, rfl, rfl, rfl⟩
theorem rem_l2 (H : RunF c s h) (i : Nat) (e : Evt) (he : s.pend[i]? = some e) :
    ∃ y, itB (exec (evL T) itL none c_law21_SeqsimRemaining_L2) (Ev.settle [2, 5, 6, 8, 9, 10, 11] true 0) ⟨[(2, (.fptr [(.fsl ((c.lps).map lpC) false), (.fsl ((c.progs).map progC) false), (.v (.int .i64 (c.look))), (.v (.int .i64 (c.fin))), (.v (.int .i64 (c.cap)))])), (5, (.v (.bool (true)))), (6, (.fsl ((s.trace).map evtsC) false)), (8, (.v (.int .i64 (errZ c s)))), (9, (.fsl ((s.pend).map Evt.r) false)), (10, (.v (.int .i64 (i)))), (11, (.v (.int .i64 ((0 : Nat)))))], []⟩ [] = some y ∧
      (y.1 = .exit 2 ∧ y.2.1.marks = [] ∧ y.2.2 = [] ∧ Ev.look y.2.1.vars 2 = some (.fptr [(.fsl ((c.lps).map lpC) false), (.fsl ((c.progs).map progC) false), (.v (.int .i64 (c.look))), (.v (.int .i64 (c.fin))), (.v (.int .i64 (c.cap)))]) ∧ Ev.look y.2.1.vars 5 = some (.v (.bool (true))) ∧ Ev.look y.2.1.vars 6 = some (.fsl ((s.trace).map evtsC) false) ∧ Ev.look y.2.1.vars 8 = some (.v (.int .i64 (errZ c s))) ∧ Ev.look y.2.1.vars 9 = some (.fsl ((s.pend).map Evt.r) false) ∧ Ev.look y.2.1.vars 10 = some (.v (.int .i64 (i)))) := by
  obtain ⟨htl, hn8⟩ := H.n
  refine itB_each s.trace (fun a => ⟨[(2, (.fptr [(.fsl ((c.lps).map lpC) false), (.fsl ((c.progs).map progC) false), (.v (.int .i64 (c.look))), (.v (.int .i64 (c.fin))), (.v (.int .i64 (c.cap)))])), (5, (.v (.bool (true)))), (6, (.fsl ((s.trace).map evtsC) false)), (8, (.v (.int .i64 (errZ c s)))), (9, (.fsl ((s.pend).map Evt.r) false)), (10, (.v (.int .i64 (i)))), (11, (.v (.int .i64 (a))))], []⟩) [] _ ?_ ?_
  · intro a x ha hx
    have ha' : (a : Int) < (s.trace.length : Int) := by omega
    have hw : IntKind.i64.wrap ((a : Int) + 1) = ((a + 1 : Nat) : Int) := by rw [w64_small (by omega) (by omega)]; simp
    obtain ⟨⟨y, ev, σ⟩, k1, k2, k3, k4, k5, k6, k7, k8, k9, k10, k11⟩ := rem_l3 H i a e he x hx
    simp only [Int.ofNat_zero] at k1 k2 k3 k4 k5 k6 k7 k8 k9 k10 k11
    subst k2; subst k4
    simp only [c_law21_SeqsimRemaining_L2, ha', hw, k1, k3, k5, k6, k7, k8, k9, k10, k11, lps_lo, progs_lo, evss_lo, evts_lo, Ev.exec, Ev.evOpers, Ev.evOper, Ev.item_op, Ev.evOp, Ev.Opnd.ev, Ev.Env.get, Ev.Env.set, Ev.look, Ev.bin_add, Ev.bin_lss, Ev.settle, Ev.keep, Ev.varsLo, Ev.marksLo, Ev.storeLo, Ev.lo_v, Ev.lo_fsl, Ev.lo_fptr, Ev.los_nil, Ev.los_cons, List.length_map, ↓Ev.obind, ↓Ev.itL_itB, Ev.it1, ↓reduceIte, List.length_nil, List.take_nil, Nat.reduceEqDiff, decide_true, Bool.and_self, and_self, eq_self]
  · simp only [c_law21_SeqsimRemaining_L2, Int.lt_irrefl, Ev.exec, Ev.evOpers, Ev.evOper, Ev.item_op, Ev.evOp, Ev.Opnd.ev, Ev.Env.get, Ev.Env.set, Ev.look, Ev.bin_lss, List.length_map, ↓Ev.obind, Ev.it1, ↓reduceIte, Nat.reduceEqDiff, decide_false, Bool.false_eq_true, eq_self]
    exact ⟨_, rfl, rfl, rfl, rfl, rfl, rfl, rfl, rfl, rfl, rfl⟩
theorem rem_l1 (H : RunF c s h) (hf : ¬ errZ c s = 10 → ∀ e ∈ s.pend, ¬ e.time < c.fin) :
    ∃ y, itB (exec (evL T) itL none c_law21_SeqsimRemaining_L1) (Ev.settle [2, 5, 6, 8, 9, 10] true 0) ⟨[(2, (.fptr [(.fsl ((c.lps).map lpC) false), (.fsl ((c.progs).map progC) false), (.v (.int .i64 (c.look))), (.v (.int .i64 (c.fin))), (.v (.int .i64 (c.cap)))])), (5, (.v (.bool (true)))), (6, (.fsl ((s.trace).map evtsC) false)), (8, (.v (.int .i64 (errZ c s)))), (9, (.fsl ((s.pend).map Evt.r) false)), (10, (.v (.int .i64 ((0 : Nat)))))], []⟩ [] = some y ∧
      (y.1 = .exit 0 ∧ y.2.1.marks = [] ∧ y.2.2 = [] ∧ Ev.look y.2.1.vars 2 = some (.fptr [(.fsl ((c.lps).map lpC) false), (.fsl ((c.progs).map progC) false), (.v (.int .i64 (c.look))), (.v (.int .i64 (c.fin))), (.v (.int .i64 (c.cap)))]) ∧ Ev.look y.2.1.vars 5 = some (.v (.bool (true))) ∧ Ev.look y.2.1.vars 8 = some (.v (.int .i64 (errZ c s))) ∧ Ev.look y.2.1.vars 9 = some (.fsl ((s.pend).map Evt.r) false)) := by
  obtain ⟨htl, hn8⟩ := H.n
  have hpl := H.inv.len
  have hhl := H.len
  have hpk : ∀ e ∈ s.pend, e.key.length ≤ 9223372036854775807 := fun e he => by
    have := (H.inv.ev e (List.mem_append_right _ he)).key; omega
  refine itB_each s.pend (fun i => ⟨[(2, (.fptr [(.fsl ((c.lps).map lpC) false), (.fsl ((c.progs).map progC) false), (.v (.int .i64 (c.look))), (.v (.int .i64 (c.fin))), (.v (.int .i64 (c.cap)))])), (5, (.v (.bool (true)))), (6, (.fsl ((s.trace).map evtsC) false)), (8, (.v (.int .i64 (errZ c s)))), (9, (.fsl ((s.pend).map Evt.r) false)), (10, (.v (.int .i64 (i))))], []⟩) [] _ ?_ ?_
  · intro i e hi he
    have hi' : (i : Int) < (s.pend.length : Int) := by omega
    have hw : IntKind.i64.wrap ((i : Int) + 1) = ((i + 1 : Nat) : Int) := by rw [w64_small (by omega) (by omega)]; simp
    obtain ⟨⟨y, ev, σ⟩, k1, k2, k3, k4, k5, k6, k7, k8, k9, k10⟩ := rem_l2 H i e he
    simp only [Int.ofNat_zero] at k1 k2 k3 k4 k5 k6 k7 k8 k9 k10
    subst k2; subst k4
    have hfe := fun h => hf h e (List.mem_of_getElem? he)
    cases i with
    | zero =>
      have hi0 : (0 : Int) < (s.pend.length : Int) := by omega
      have hw0 : IntKind.i64.wrap 1 = 1 := rfl
      obtain ⟨et, ek, el, ei, ep, ea⟩ := e
      simp only [Int.ofNat_zero] at k1 k10
      by_cases h10 : errZ c s = 10
      · simp only [h10] at k1 k8 ⊢
        simp only [c_law21_SeqsimRemaining_L1, Int.lt_irrefl, gt_iff_lt, hi0, hw0, k1, k3, k5, k6, k7, k8, k9, k10, lps_lo, progs_lo, evss_lo, evts_lo, Ev.exec, Ev.evOpers, Ev.evOper, Ev.item_op, Ev.evOp, Ev.Opnd.ev, Ev.Env.get, Ev.Env.set, Ev.Env.unset, Ev.look, Ev.bin_add, Ev.bin_neq, Ev.bin_lss, Ev.bin_gtr, Ev.settle, Ev.keep, Ev.varsLo, Ev.marksLo, Ev.storeLo, Ev.lo_v, Ev.lo_fsl, Ev.lo_fptr, Ev.los_nil, Ev.los_cons, List.length_map, ↓Ev.obind, ↓Ev.itL_itB, Ev.it1, ↓reduceIte, List.length_nil, List.take_nil, Nat.reduceEqDiff, Int.reduceAdd, Int.cast_ofNat_Int, decide_true, decide_false, Bool.and_self, Bool.false_eq_true, and_self, ne_eq, not_true_eq_false, Nat.zero_add, eq_self]
      · have hfe' := hfe h10
        simp only at hfe'
        simp only [c_law21_SeqsimRemaining_L1, List.getElem?_map, Option.map_some, Int.toNat_zero, Int.lt_irrefl, Int.le_refl, gt_iff_lt, he, hi0, hw0, h10, hfe', k1, k3, k5, k6, k7, k8, k9, k10, Evt.r, lps_lo, progs_lo, evss_lo, evts_lo, Ev.exec, Ev.evOpers, Ev.evOper, Ev.item_op, Ev.evOp, Ev.Opnd.ev, Ev.Env.get, Ev.Env.set, Ev.Env.unset, Ev.look, Ev.cellsAt, Ev.loadC, Ev.bin_add, Ev.bin_neq, Ev.bin_lss, Ev.bin_gtr, Ev.settle, Ev.keep, Ev.varsLo, Ev.marksLo, Ev.storeLo, Ev.lo_v, Ev.lo_fsl, Ev.lo_fptr, Ev.los_nil, Ev.los_cons, List.length_map, ↓Ev.obind, ↓Ev.itL_itB, Ev.it1, ↓reduceIte, List.length_cons, List.length_nil, List.take_nil, List.drop_succ_cons, List.drop_zero, List.head?_cons, Nat.reduceAdd, Nat.reduceEqDiff, Int.reduceAdd, Int.cast_ofNat_Int, decide_true, decide_false, Bool.and_self, Bool.false_eq_true, and_self, ne_eq, not_false_eq_true, Nat.zero_add, eq_self]
    | succ q =>
      obtain ⟨e0, he0⟩ : ∃ e0, s.pend[q]? = some e0 := ⟨_, List.getElem?_eq_getElem (by omega)⟩
      have hs := H.inv.sorted
      have hkn := (List.pairwise_append.1 H.inv.keys).2.1
      rw [List.pairwise_iff_getElem] at hs hkn
      have s2 := hs q (q + 1) (by omega) (by omega) (by omega)
      have s3 := hkn q (q + 1) (by omega) (by omega) (by omega)
      rw [(List.getElem?_eq_some_iff.1 he).2, (List.getElem?_eq_some_iff.1 he0).2] at s2 s3
      have hc3 : ¬ cmpE e0 e ≥ 0 := by
        have h4 : ¬ cmpE e0 e = 0 := fun k => s3 ((cmpE_zero _ _).1 k).2
        unfold leE at s2; omega
      have ce := ref03_CompareEvents_ev e0 e (hpk e0 (List.mem_of_getElem? he0)) (hpk e (List.mem_of_getElem? he))
      have hq0 : ((q + 1 : Nat) : Int) > 0 := by omega
      have hwq : IntKind.i64.wrap (((q + 1 : Nat) : Int) - 1) = (q : Int) := by rw [w64_small (by omega) (by omega)]; omega
      have hn0 : (0 : Int) ≤ ((q + 1 : Nat) : Int) := by omega
      have hnt : (((q + 1 : Nat) : Int)).toNat = q + 1 := by omega
      clear s2 s3 hs hkn
      generalize hkk : ((q + 1 : Nat) : Int) = kk at *
      obtain ⟨et, ek, el, ei, ep, ea⟩ := e
      obtain ⟨ft, fk, fl, fi, fp, fa⟩ := e0
      simp only at ce
      by_cases h10 : errZ c s = 10
      · simp only [h10] at k1 k8 ⊢
        simp only [c_law21_SeqsimRemaining_L1, Int.natCast_nonneg, Int.toNat_natCast, List.getElem?_map, Option.map_some, he, he0, hi', hw, ce, hc3, hq0, hwq, hn0, hnt, k1, k3, k5, k6, k7, k8, k9, k10, Evt.r, lps_lo, progs_lo, evss_lo, evts_lo, ints_lo, Ev.exec, Ev.evOpers, Ev.evOper, Ev.item_op, Ev.item_P, Ev.evOp, Ev.evs, Ev.Opnd.ev, Ev.Env.get, Ev.Env.set, Ev.Env.unset, Ev.look, Ev.cellsAt, Ev.loadC, Ev.bin_add, Ev.bin_sub, Ev.bin_neq, Ev.bin_lss, Ev.bin_gtr, Ev.bin_geq, Ev.settle, Ev.keep, Ev.varsLo, Ev.marksLo, Ev.storeLo, Ev.lo_v, Ev.lo_agg, Ev.lo_fsl, Ev.lo_fptr, Ev.los_nil, Ev.los_cons, List.length_map, ↓Ev.obind, ↓Ev.itL_itB, Ev.it1, ↓reduceIte, List.length_cons, List.length_nil, List.take_succ_cons, List.take_nil, Nat.reduceAdd, Nat.reduceEqDiff, decide_true, decide_false, Bool.and_self, Bool.false_eq_true, and_self, ne_eq, not_true_eq_false, Nat.zero_add, Nat.le_refl, eq_self]
      · have hfe' := hfe h10
        simp only at hfe'
        simp only [c_law21_SeqsimRemaining_L1, Int.natCast_nonneg, Int.toNat_natCast, List.getElem?_map, Option.map_some, he, he0, hi', hw, ce, hc3, hq0, hwq, hn0, hnt, h10, hfe', k1, k3, k5, k6, k7, k8, k9, k10, Evt.r, lps_lo, progs_lo, evss_lo, evts_lo, ints_lo, Ev.exec, Ev.evOpers, Ev.evOper, Ev.item_op, Ev.item_P, Ev.evOp, Ev.evs, Ev.Opnd.ev, Ev.Env.get, Ev.Env.set, Ev.look, Ev.cellsAt, Ev.loadC, Ev.bin_add, Ev.bin_sub, Ev.bin_neq, Ev.bin_lss, Ev.bin_gtr, Ev.bin_geq, Ev.settle, Ev.keep, Ev.varsLo, Ev.marksLo, Ev.storeLo, Ev.lo_v, Ev.lo_agg, Ev.lo_fsl, Ev.lo_fptr, Ev.los_nil, Ev.los_cons, List.length_map, ↓Ev.obind, ↓Ev.itL_itB, Ev.it1, ↓reduceIte, List.length_cons, List.length_nil, List.take_succ_cons, List.take_nil, List.drop_succ_cons, List.drop_zero, List.head?_cons, Nat.reduceAdd, Nat.reduceEqDiff, decide_true, decide_false, Bool.and_self, Bool.false_eq_true, and_self, ne_eq, not_false_eq_true, Nat.zero_add, Nat.le_refl, eq_self]
  · simp only [c_law21_SeqsimRemaining_L1, Int.lt_irrefl, Ev.exec, Ev.evOpers, Ev.evOper, Ev.item_op, Ev.evOp, Ev.Opnd.ev, Ev.Env.get, Ev.Env.set, Ev.look, Ev.bin_lss, List.length_map, ↓Ev.obind, Ev.it1, ↓reduceIte, Nat.reduceEqDiff, decide_false, Bool.false_eq_true, eq_self]
    exact ⟨_, rfl, rfl, rfl, rfl, rfl, rfl, rfl, rfl⟩
end
theorem law_SeqsimRemaining (c : Cfg) (a : Int) (ha : 0 ≤ a ∧ a ≤ 255) : callZ (evL T) n_law21_SeqsimRemaining [(.agg [(.fsl ((c.lps).map lpC) false), (.fsl ((c.progs).map progC) false), (.v (.int .i64 (c.look))), (.v (.int .i64 (c.fin))), (.v (.int .i64 (c.cap)))]), (.v (.int .u8 a))] = some (.v (.bool (true))) := by
  have hok := ok_ev c
  rw [callZ, evL_code ext_law21_SeqsimRemaining code_law21_SeqsimRemaining]
  cases ho : okB c with
  | false =>
    rw [ho] at hok
    simp only [c_law21_SeqsimRemaining, law21_head_ev, hok, lps_lo, progs_lo, Ev.runFunc, Ev.exec, Ev.evOpers, Ev.evOper, Ev.item_op, Ev.item_P, Ev.evOp, Ev.evs, Ev.Opnd.ev, Ev.Env.get, Ev.Env.set, Ev.look, Ev.argVars, Ev.cellsAt, Ev.loadC, Ev.AV.cells, Ev.plains, Ev.AV.plain, Ev.resVals, Ev.resVal, Ev.resOf, Ev.kill, Ev.leave, Ev.storeLo, Ev.lo_v, Ev.lo_agg, Ev.lo_fsl, Ev.los_nil, Ev.los_cons, Ev.frz_lo, ↓Ev.obind, ↓reduceIte, List.length_cons, List.length_nil, List.take_succ_cons, List.take_nil, Nat.reduceAdd, Nat.reduceEqDiff, Bool.and_self, Bool.not_false, and_self, ne_eq, not_false_eq_true, List.cons_ne_nil, Nat.zero_add, Nat.le_refl, eq_self]
  | true =>
    rw [ho] at hok
    have G := good_of ho
    have hL := Limit_ev a ha
    obtain ⟨n, hn⟩ : ∃ n : Nat, n = a.toNat % 41 := ⟨_, rfl⟩
    rw [← hn] at hL
    obtain ⟨h, H, Hl, hstop⟩ := ran G.v n (by omega)
    obtain ⟨L1, _, _, r1⟩ := G.run n (by omega)
    have r2 := Pending_ev (c := c) rfl G n (by omega)
    change SInv c (runS c n) h at H
    have F : RunF c (runS c n) h := ⟨H, by omega⟩
    have hf : ¬ errZ c (runS c n) = 10 → ∀ e ∈ (runS c n).pend, ¬ e.time < c.fin := by
      intro h10 e he hlt
      have hr : (runS c n).ready c = true := by
        unfold Sim.ready
        cases hp : (runS c n).pend with
        | nil => rw [hp] at he; cases he
        | cons e0 rest =>
          simp only [decide_eq_true_eq]
          have hs := H.sorted
          rw [hp] at hs he
          rcases List.mem_cons.1 he with rfl | he
          · exact hlt
          · have := time_of_leE ((List.pairwise_cons.1 hs).1 e he); omega
      exact h10 ((errZ_ten c).2 hr)
    obtain ⟨⟨y, ev, σ⟩, k1, k2, k3, k4, k5, k6, k7, k8⟩ := rem_l1 F hf
    simp only [Int.ofNat_zero] at k1 k2 k3 k4 k5 k6 k7 k8
    subst k2; subst k4
    by_cases h10 : errZ c (runS c n) = 10
    · have hr := (errZ_ten c).1 h10
      obtain ⟨e0, rest, hp, hlt⟩ := ready_some hr
      have c1 : ((rest.length + 1 : Nat) : Int) > 0 := by omega
      simp only [h10] at r1 k1 k7
      simp only [hp, List.map_cons] at r2 k1 k8
      obtain ⟨et, ek, el, ei, ep, ea⟩ := e0
      simp only at hlt
      simp only [Evt.r] at r2 k1 k8
      have lo0 : los 0 (Evt.r ⟨et, ek, el, ei, ep, ea⟩) = true := evt_lo _ _
      simp only [Evt.r] at lo0
      simp only [c_law21_SeqsimRemaining, law21_head_ev, hok, hL, r1, r2, k1, k3, k5, k6, k7, k8, c1, hlt, Int.le_refl, Int.toNat_zero, lps_lo, progs_lo, evss_lo, evts_lo, ints_lo, Ev.runFunc, Ev.exec, Ev.evOpers, Ev.evOper, Ev.item_op, Ev.item_P, Ev.evOp, Ev.evs, Ev.Opnd.ev, Ev.Env.get, Ev.Env.set, Ev.look, Ev.argVars, Ev.cellsAt, Ev.loadC, Ev.AV.cells, Ev.plains, Ev.AV.plain, Ev.bin_neq, Ev.bin_lss, Ev.bin_gtr, Ev.resVals, Ev.resVal, Ev.resOf, Ev.kill, Ev.leave, Ev.settle, Ev.keep, Ev.varsLo, Ev.marksLo, Ev.storeLo, Ev.lo_v, Ev.lo_agg, Ev.lo_fsl, Ev.lo_fptr, Ev.los_nil, Ev.los_cons, Ev.loss_cons, Ev.frz_lo, List.length_map, ↓Ev.obind, ↓Ev.itL_itB, ↓reduceIte, List.length_cons, List.length_nil, List.getElem?_cons_zero, List.getElem?_cons_succ, List.take_succ_cons, List.take_nil, List.drop_succ_cons, List.drop_zero, List.head?_cons, Nat.reduceAdd, Nat.reduceEqDiff, reduceCtorEq, decide_true, decide_false, Bool.and_self, Bool.not_true, Bool.false_eq_true, and_self, ne_eq, not_false_eq_true, not_true_eq_false, List.cons_ne_nil, Nat.zero_add, Nat.le_refl, eq_self]
    · simp only [c_law21_SeqsimRemaining, law21_head_ev, hok, hL, r1, r2, k1, k3, k6, k7, h10, lps_lo, progs_lo, evss_lo, evts_lo, Ev.runFunc, Ev.exec, Ev.evOpers, Ev.evOper, Ev.item_op, Ev.item_P, Ev.evOp, Ev.evs, Ev.Opnd.ev, Ev.Env.get, Ev.Env.set, Ev.Env.unset, Ev.look, Ev.argVars, Ev.cellsAt, Ev.loadC, Ev.AV.cells, Ev.plains, Ev.AV.plain, Ev.bin_neq, Ev.resVals, Ev.resVal, Ev.resOf, Ev.kill, Ev.leave, Ev.settle, Ev.keep, Ev.varsLo, Ev.marksLo, Ev.storeLo, Ev.lo_v, Ev.lo_agg, Ev.lo_fsl, Ev.lo_fptr, Ev.los_nil, Ev.los_cons, Ev.frz_lo, ↓Ev.obind, ↓Ev.itL_itB, ↓reduceIte, List.length_cons, List.length_nil, List.getElem?_cons_zero, List.getElem?_cons_succ, List.take_succ_cons, List.take_nil, Nat.reduceAdd, Nat.reduceEqDiff, reduceCtorEq, decide_true, Bool.and_self, Bool.not_true, Bool.false_eq_true, Bool.true_eq_false, and_self, ne_eq, not_false_eq_true, List.cons_ne_nil, Nat.zero_add, Nat.le_refl, eq_self]
end Go.Proofs.Ythkjkdbjgpeigaa.K
namespace Go.Proofs.Ythkjkdbjgpeigaa.K
open Go.Ev
open Go.ChangeShapes Go.WideShapes Go.ChangeAt Go.RowKit
set_option linter.unusedSimpArgs false
set_option linter.unusedVariables false
set_option maxRecDepth 100000 in
theorem seqsimRemaining_lifted (os : Os) (started : os.Started) (H : Type) (enc : TypeId × Value → H) :
    ReturnsInHanded {} Try.checked os 7 .any (Rows.seqsimRemainingSpec.pre6 enc Try.prog Try.f7 Rows.seqsimRemainingRow.domain false) (Rows.seqsimRemainingSpec.post enc Try.prog Try.f7 false true false false) := by
  refine returnsInHanded_of_change (C := Try.checked) own started (by kernel_rfl) Try.func7
    (ChangeSpec.witness6 (enc := enc) (C := Try.checked) false ⟨#[], #[.agg #[.slice none 0 0, .slice none 0 0, .int .i64 0, .int .i64 0, .int .i64 0], .int .u8 0], []⟩ 8 (by kernel_rfl) (by kernel_rfl) (by kernel_rfl) (by kernel_rfl)) ?_
  intro W base args ds gs before hval hW hcnd _
  have hargs := isArgs_struct Try.underlying25 data_cfg (isArgs_cell Try.underlying5 rfl data_u8 (isArgs_nil (enc := enc)))
  refine contract_of (P := Try.prog) (fn := Try.f7) (tb := 4) T_ok code_law21_SeqsimRemaining (by rw [Try.params7]) hargs ?_ rfl ?_ (by kernel_rfl) Try.underlying4 laid (by decide +kernel) W base args ds gs before hval hW
  · rintro ⟨c, a, _⟩ ⟨hi, h1, _⟩
    exact law_SeqsimRemaining c a h1
  · intro ds h
    match ds, h with
    | [_, _], _ => rfl
theorem seqsimRemaining_over : Rows.seqsimRemainingRow.holds Try.pinned (OpenSpec.ofChange Rows.seqsimRemainingSpec) :=
  OpenClaim.holds_of_wide 7 Try.f7 rfl rfl rfl rfl rfl rfl rfl ⟨rfl, rfl, rfl, rfl, rfl⟩ rfl rfl rfl rfl rfl (by kernel_rfl) Try.func7 (by kernel_rfl)
    (of_decide_eq_true (by kernel_rfl)) (by unfold Func.isWrapper; first | (rw [if_pos (by decide +kernel)]; kernel_rfl) | (rw [if_neg (by decide +kernel)]; exact ⟨rfl, rfl⟩))
    (fun os started H enc _ => seqsimRemaining_lifted os started H enc)
end Go.Proofs.Ythkjkdbjgpeigaa.K
namespace Go.Proofs.Ythkjkdbjgpeigaa
theorem seqsimRemaining_holds : Rows.SeqsimRemainingSaid := K.seqsimRemaining_over
end Go.Proofs.Ythkjkdbjgpeigaa
#print axioms Go.Proofs.Ythkjkdbjgpeigaa.seqsimRemaining_holds
