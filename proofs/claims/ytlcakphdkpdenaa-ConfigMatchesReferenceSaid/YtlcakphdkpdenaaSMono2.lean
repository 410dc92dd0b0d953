/- Part of the proofs about this seat's program (module SMono2). -/
import Derived.Test.YtlcakphdkpdenaaSMono
import Derived.Test.YtlcakphdkpdenaaCBase
set_option linter.unusedSectionVars false
set_option linter.unusedSimpArgs false
set_option linter.unusedVariables false
namespace Go.Proofs.Ytlcakphdkpdenaa.K
open Go.Ev
set_option linter.unusedSimpArgs false
set_option linter.unusedVariables false
set_option maxRecDepth 10000
def endOp : OpI := ⟨8, 0, 0, 0⟩
/-- The configuration that is asked beside a valid one. -/
def monoD (c : Cfg) (less more : Int) : Cfg where
  lps := c.lps
  progs := if (c.progs.length : Int) < 8 then c.progs ++ [[endOp]] else c.progs
  look := if c.look - less > 1 then c.look - less else 1
  fin := if c.fin + more < 1152921504606846976 then c.fin + more else 1152921504606846976
  cap := if c.cap + more < 64 then c.cap + more else 64
theorem withinB_iff {n l m : Int} : withinB n l m = true ↔ l ≤ n ∧ n ≤ m := by simp [withinB]
theorem sizes_iff {c : Cfg} : sizesB c = true ↔ (1 ≤ (c.lps.length : Int) ∧ (c.lps.length : Int) ≤ 8) ∧ (c.progs.length : Int) ≤ 8 ∧ (1 ≤ c.cap ∧ c.cap ≤ 64) ∧ (0 ≤ c.fin ∧ c.fin ≤ 1152921504606846976) ∧ ∀ l ∈ c.lps, (l.length : Int) ≤ 8 := by
  unfold sizesB sizes0
  simp only [Bool.and_eq_true, withinB_iff, decide_eq_true_eq, List.all_eq_true, lenB]
  constructor
  · rintro ⟨⟨h1, h2, h3, h4⟩, h5⟩; exact ⟨h1, h2, h3, h4, h5⟩
  · rintro ⟨h1, h2, h3, h4, h5⟩; exact ⟨⟨h1, h2, h3, h4⟩, h5⟩
theorem startE_mono {c d : Cfg} {s : Start} (h : (c.progs.length : Int) ≤ d.progs.length) (hs : startE c s = 0) : startE d s = 0 := by
  unfold startE at hs ⊢
  cases h1 : withinB s.prog 0 ((c.progs.length : Int) - 1) with
  | false => rw [h1] at hs; simp at hs
  | true =>
    have h2 : withinB s.prog 0 ((d.progs.length : Int) - 1) = true := by
      rw [withinB_iff] at h1 ⊢; omega
    rw [h1] at hs; rw [h2]; exact hs
theorem monoD_ok {c : Cfg} (hz : cfgZ c = 0) {less more : Int} (h1 : 0 ≤ less) (h2 : 0 ≤ more) : cfgZ (monoD c less more) = 0 := by
  obtain ⟨a1, a2, a3, a4⟩ := cfgZ_zero.1 hz
  obtain ⟨b1, b2, b3, b4, b5⟩ := sizes_iff.1 a1
  have hle : (c.progs.length : Int) ≤ (monoD c less more).progs.length ∧ ((monoD c less more).progs.length : Int) ≤ 8 := by
    simp only [monoD]; split <;> (simp; omega)
  have hlook : 1 ≤ (monoD c less more).look ∧ (monoD c less more).look ≤ c.look := by
    simp only [monoD]; split <;> omega
  refine cfgZ_zero.2 ⟨sizes_iff.2 ⟨b1, hle.2, ?_, ?_, b5⟩, hlook.1, fun p hp => ?_, fun l hl s hs => startE_mono hle.1 (a4 l hl s hs)⟩
  · simp only [monoD]; split <;> omega
  · simp only [monoD]; split <;> omega
  · by_cases hold : p ∈ c.progs
    · obtain ⟨k1, k2, k3, k4⟩ := checkZ_zero.1 (a3 p hold)
      simp only [List.all_eq_true] at k2 k3 k4
      exact checkZ_zero.2 ⟨k1, List.all_eq_true.2 fun x hx => operB_mono hle.1 (k2 x hx), List.all_eq_true.2 fun x hx => k3 x hx, List.all_eq_true.2 fun x hx => earlyB_mono hlook.2 (k4 x hx)⟩
    · have hp' : p = [endOp] := by
        simp only [monoD] at hp
        split at hp
        · rcases List.mem_append.1 hp with hp | hp
          · exact absurd hp hold
          · simpa using hp
        · exact absurd hp hold
      subst hp'
      refine checkZ_zero.2 ⟨rfl, ?_, ?_, ?_⟩ <;> simp [endOp, operB, tgtB, earlyB]
/-- Lookahead is at least what it may be, and the greatest that holds. -/
theorem look_facts {c : Cfg} (hz : cfgZ c = 0) : lookZ c = c.progs.foldl minProg 1099511627776 ∧ 1 ≤ lookZ c ∧ lookZ c ≤ 1099511627776 ∧ (c.look ≤ lookZ c ∨ 1099511627776 ≤ lookZ c) ∧ cfgZ (withLook c (lookZ c)) = 0 ∧
    (lookZ c = 1099511627776 ∨ cfgZ (withLook c (lookZ c + 1)) = 21) := by
  obtain ⟨a1, a2, a3, a4⟩ := cfgZ_zero.1 hz
  obtain ⟨m1, m2, m3⟩ := minAll_le c.progs 1099511627776
  have hsend : ∀ p ∈ c.progs, ∀ x ∈ p, x.code = 2 → 1 ≤ x.c ∧ x.c ≤ 1099511627776 ∧ c.look ≤ x.c := fun p hp x hx hc => by
    obtain ⟨k1, k2, k3, k4⟩ := checkZ_zero.1 (a3 p hp)
    rw [List.all_eq_true] at k2 k4
    have := oper_send (k2 x hx) hc
    have := k4 x hx
    simp [earlyB, hc] at this
    omega
  have hn1 : 1 ≤ c.progs.foldl minProg 1099511627776 := by
    rcases m3 with h | ⟨p, hp, x, hx, hc, h⟩
    · omega
    · have := hsend p hp x hx hc; omega
  have h1 : cfgZ (withLook c 1) = 0 := by
    rw [cfgZ_withLook hz (Int.le_refl 1), if_neg]
    rintro ⟨h, _⟩; omega
  have hl : lookZ c = c.progs.foldl minProg 1099511627776 := by unfold lookZ; rw [if_pos h1]
  rw [hl]
  refine ⟨rfl, hn1, m1, ?_, ?_, ?_⟩
  · rcases m3 with h | ⟨p, hp, x, hx, hc, h⟩
    · right; omega
    · left; have := hsend p hp x hx hc; omega
  · rw [cfgZ_withLook hz hn1, if_neg]
    rintro ⟨h, _⟩; omega
  · rcases m3 with h | ⟨p, hp, x, hx, hc, h⟩
    · exact .inl h
    · right
      rw [cfgZ_withLook hz (by omega), if_pos ⟨by omega, p, hp, x, hx, hc, by omega⟩]
theorem law_ConfigMonotone (c : Cfg) (less more : Int) (h1 : 0 ≤ less ∧ less ≤ 255) (h2 : 0 ≤ more ∧ more ≤ 255) (hi : -9223372036854775808 ≤ c.look ∧ c.look ≤ 9223372036854775807) :
    callZ (evL T) n_law19_ConfigMonotone [(.agg [(.fsl ((c.lps).map lpC) false), (.fsl ((c.progs).map progC) false), (.v (.int .i64 (c.look))), (.v (.int .i64 (c.fin))), (.v (.int .i64 (c.cap)))]), (.v (.int .u8 (less))), (.v (.int .u8 (more)))] = some (.v (.bool (true))) := by
  have hg := law19_Great_ev c
  rw [callZ, evL_code ext_law19_ConfigMonotone code_law19_ConfigMonotone]
  cases hgr : greatB c with
  | true =>
    rw [hgr] at hg
    simp only [c_law19_ConfigMonotone, law19_head_ev, hg, lps_lo, progs_lo, Go.Ev.runFunc, Go.Ev.exec, Go.Ev.evOpers, Go.Ev.evOper, Go.Ev.item_op, Go.Ev.item_P, Go.Ev.evOp, Go.Ev.evs, Go.Ev.Opnd.ev, Go.Ev.Env.get, Go.Ev.Env.set, Go.Ev.Env.unset, Go.Ev.look, Go.Ev.argVars, Go.Ev.cellsAt, Go.Ev.loadC, Go.Ev.AV.cells, Go.Ev.plains, Go.Ev.AV.plain, Go.Ev.resVals, Go.Ev.resVal, Go.Ev.resOf, Go.Ev.kill, Go.Ev.leave, Go.Ev.storeLo, Go.Ev.lo_v, Go.Ev.lo_agg, Go.Ev.lo_fsl, Go.Ev.los_nil, Go.Ev.los_cons, Go.Ev.frz_lo, ↓Go.Ev.obind, ↓reduceIte, List.length_cons, List.length_nil, List.take_succ_cons, List.take_nil, Nat.reduceAdd, Nat.reduceEqDiff, Bool.and_self, Bool.true_eq_false, and_self, ne_eq, not_false_eq_true, List.cons_ne_nil, Nat.zero_add, Nat.le_refl, eq_self]
  | false =>
    rw [hgr] at hg
    obtain ⟨hok, g1, g2, g3, g4⟩ := great_ok c hgr
    have hk := config_Check_ev c hok
    by_cases hz : cfgZ c = 0
    · rw [hz] at hk
      obtain ⟨a1, a2, a3, a4⟩ := cfgZ_zero.1 hz
      obtain ⟨b1, b2, b3, b4, b5⟩ := sizes_iff.1 a1
      have w1 : IntKind.i64.wrap less = less := w64_small (by omega) (by omega)
      have w2 : IntKind.i64.wrap more = more := w64_small (by omega) (by omega)
      have w3 : IntKind.i64.wrap (c.look - less) = c.look - less := w64_small (by omega) (by omega)
      have w4 : IntKind.i64.wrap (c.cap + more) = c.cap + more := w64_small (by omega) (by omega)
      have w5 : IntKind.i64.wrap (c.fin + more) = c.fin + more := w64_small (by omega) (by omega)
      have hd := config_Check_ev (monoD c less more) ⟨hok.lps, by simp only [monoD]; split <;> (simp; omega), fun p hp => by
        simp only [monoD] at hp
        split at hp
        · rcases List.mem_append.1 hp with hp | hp
          · exact hok.prog p hp
          · simp at hp; subst hp; simp
        · exact hok.prog p hp, hok.lp⟩
      rw [monoD_ok hz h1.1 h2.1] at hd
      have hla := config_Lookahead_ev c hok
      obtain ⟨e0, e1, e2, e3, e4, e5⟩ := look_facts hz
      have w6 : IntKind.i64.wrap (lookZ c + 1) = lookZ c + 1 := w64_small (by omega) (by omega)
      have hf := config_Check_ev (withLook c (lookZ c)) ⟨hok.lps, hok.progs, hok.prog, hok.lp⟩
      rw [e4] at hf
      have hge := config_Check_ev (withLook c (lookZ c + 1)) ⟨hok.lps, hok.progs, hok.prog, hok.lp⟩
      have hmin : lookZ c ≥ (if (1099511627776 : Int) < c.look then 1099511627776 else c.look) := by split <;> omega
      simp only [withLook] at hf hge e5
      simp only [monoD] at hd
      have hrep : List.replicate 1 ([(.v (.int .i64 (0))), (.v (.int .i64 (0))), (.v (.int .i64 (0))), (.v (.int .i64 (0)))] : List AV) = [[(.v (.int .i64 (0))), (.v (.int .i64 (0))), (.v (.int .i64 (0))), (.v (.int .i64 (0)))]] := rfl
      have htk : ∀ e : List AV, List.take (c.progs.length + 1) (c.progs.map progC ++ [e]) = c.progs.map progC ++ [e] := fun e => List.take_of_length_le (by simp)
      have hro : okRows 1 (c.progs.map progC) = true := okRows_map progC_pl _
      have hs1 : c.progs.length * 24 ≤ 140737488355328 := by omega
      have hs2 : (c.progs.length + 1) * 24 ≤ 140737488355328 := by omega
      by_cases hmax : lookZ c = 1099511627776
      · rw [hmax] at hf hla hmin w6 hge
        by_cases h8 : (c.progs.length : Int) < 8
        · simp only [h8, if_true, List.map_append, List.map_cons, List.map_nil, progC, endOp, OpI.r] at hd
          simp only [c_law19_ConfigMonotone, law19_head_ev, hg, hk, w1, w2, w3, w4, w5, hd, hla, hf, hmin, h8, hro, hs1, hs2, hrep, htk, loss_app, lps_lo, progs_lo, gt_iff_lt, Go.Ev.runFunc, Go.Ev.exec, Go.Ev.evOpers, Go.Ev.evOper, Go.Ev.item_op, Go.Ev.item_P, Go.Ev.evOp, Go.Ev.appE, Go.Ev.giveE, Go.Ev.evs, Go.Ev.Opnd.ev, Go.Ev.Env.get, Go.Ev.Env.set, Go.Ev.Env.unset, Go.Ev.look, Go.Ev.argVars, Go.Ev.cellsAt, Go.Ev.content, Go.Ev.loadC, Go.Ev.fillP, Go.Ev.fillR, Go.Ev.AV.cells, Go.Ev.AV.uc, Go.Ev.plains, Go.Ev.AV.plain, Go.Ev.bin_add, Go.Ev.bin_sub, Go.Ev.bin_eql, Go.Ev.bin_neq, Go.Ev.bin_lss, Go.Ev.bin_geq, Go.Ev.resVals, Go.Ev.resVal, Go.Ev.resOf, Go.Ev.kill, Go.Ev.leave, Go.Ev.storeLo, Go.Ev.lo_v, Go.Ev.lo_agg, Go.Ev.lo_fsl, Go.Ev.los_nil, Go.Ev.los_cons, Go.Ev.loss_nil, Go.Ev.loss_cons, Go.Ev.okRows_nil, Go.Ev.okRows_cons, Go.Ev.frz_lo, Go.Ev.take_map_len, List.replicate_one, List.replicate_zero, List.length_map, ↓Go.Ev.obind, ↓reduceIte, List.length_cons, List.length_nil, List.length_append, List.getElem?_cons_zero, List.getElem?_cons_succ, List.take_succ_cons, List.take_zero, List.take_nil, List.drop_succ_cons, List.drop_zero, List.drop_nil, List.cons_append, List.nil_append, List.append_nil, List.set_cons_zero, List.set_cons_succ, List.head?_cons, Nat.reduceAdd, Nat.reduceEqDiff, Nat.reduceMul, Nat.reduceLeDiff, Nat.reducePow, Int.reduceAdd, reduceCtorEq, decide_true, decide_false, Bool.and_self, Bool.false_eq_true, Bool.true_eq_false, and_self, ne_eq, not_false_eq_true, not_true_eq_false, List.cons_ne_nil, Nat.zero_add, Nat.lt_add_one, Nat.le_refl, eq_self, and_false]
        · simp only [h8, if_false] at hd
          simp only [c_law19_ConfigMonotone, law19_head_ev, hg, hk, w1, w2, w3, w4, w5, hd, hla, hf, hmin, h8, lps_lo, progs_lo, gt_iff_lt, Go.Ev.runFunc, Go.Ev.exec, Go.Ev.evOpers, Go.Ev.evOper, Go.Ev.item_op, Go.Ev.item_P, Go.Ev.evOp, Go.Ev.evs, Go.Ev.Opnd.ev, Go.Ev.Env.get, Go.Ev.Env.set, Go.Ev.Env.unset, Go.Ev.look, Go.Ev.argVars, Go.Ev.cellsAt, Go.Ev.loadC, Go.Ev.AV.cells, Go.Ev.AV.uc, Go.Ev.plains, Go.Ev.AV.plain, Go.Ev.bin_add, Go.Ev.bin_sub, Go.Ev.bin_eql, Go.Ev.bin_neq, Go.Ev.bin_lss, Go.Ev.bin_geq, Go.Ev.resVals, Go.Ev.resVal, Go.Ev.resOf, Go.Ev.kill, Go.Ev.leave, Go.Ev.storeLo, Go.Ev.lo_v, Go.Ev.lo_agg, Go.Ev.lo_fsl, Go.Ev.los_nil, Go.Ev.los_cons, Go.Ev.frz_lo, List.length_map, ↓Go.Ev.obind, ↓reduceIte, List.length_cons, List.length_nil, List.getElem?_cons_zero, List.getElem?_cons_succ, List.take_succ_cons, List.take_zero, List.take_nil, List.drop_succ_cons, List.drop_zero, List.drop_nil, List.cons_append, List.nil_append, List.append_nil, List.set_cons_zero, List.set_cons_succ, List.head?_cons, Nat.reduceAdd, Nat.reduceEqDiff, Nat.reduceLeDiff, Int.reduceAdd, reduceCtorEq, decide_true, decide_false, Bool.and_self, Bool.false_eq_true, Bool.true_eq_false, and_self, ne_eq, not_false_eq_true, not_true_eq_false, List.cons_ne_nil, Nat.zero_add, Nat.le_refl, eq_self]
      · rw [e5.resolve_left hmax] at hge
        by_cases h8 : (c.progs.length : Int) < 8
        · simp only [h8, if_true, List.map_append, List.map_cons, List.map_nil, progC, endOp, OpI.r] at hd
          simp only [c_law19_ConfigMonotone, law19_head_ev, hg, hk, w1, w2, w3, w4, w5, w6, hd, hla, hf, hge, hmin, hmax, h8, hro, hs1, hs2, hrep, htk, loss_app, lps_lo, progs_lo, gt_iff_lt, Go.Ev.runFunc, Go.Ev.exec, Go.Ev.evOpers, Go.Ev.evOper, Go.Ev.item_op, Go.Ev.item_P, Go.Ev.evOp, Go.Ev.appE, Go.Ev.giveE, Go.Ev.evs, Go.Ev.Opnd.ev, Go.Ev.Env.get, Go.Ev.Env.set, Go.Ev.look, Go.Ev.argVars, Go.Ev.cellsAt, Go.Ev.content, Go.Ev.loadC, Go.Ev.fillP, Go.Ev.fillR, Go.Ev.AV.cells, Go.Ev.AV.uc, Go.Ev.plains, Go.Ev.AV.plain, Go.Ev.bin_add, Go.Ev.bin_sub, Go.Ev.bin_eql, Go.Ev.bin_neq, Go.Ev.bin_lss, Go.Ev.bin_geq, Go.Ev.resVals, Go.Ev.resVal, Go.Ev.resOf, Go.Ev.kill, Go.Ev.leave, Go.Ev.storeLo, Go.Ev.lo_v, Go.Ev.lo_agg, Go.Ev.lo_fsl, Go.Ev.los_nil, Go.Ev.los_cons, Go.Ev.loss_nil, Go.Ev.loss_cons, Go.Ev.okRows_nil, Go.Ev.okRows_cons, Go.Ev.frz_lo, Go.Ev.take_map_len, List.replicate_one, List.replicate_zero, List.length_map, ↓Go.Ev.obind, ↓reduceIte, List.length_cons, List.length_nil, List.length_append, List.getElem?_cons_zero, List.getElem?_cons_succ, List.take_succ_cons, List.take_zero, List.take_nil, List.drop_succ_cons, List.drop_zero, List.drop_nil, List.cons_append, List.nil_append, List.append_nil, List.set_cons_zero, List.set_cons_succ, List.head?_cons, Nat.reduceAdd, Nat.reduceEqDiff, Nat.reduceMul, Nat.reduceLeDiff, Nat.reducePow, reduceCtorEq, decide_true, decide_false, Bool.and_self, Bool.false_eq_true, and_self, ne_eq, not_false_eq_true, not_true_eq_false, List.cons_ne_nil, Nat.zero_add, Nat.lt_add_one, Nat.le_refl, eq_self, and_false]
        · simp only [h8, if_false] at hd
          simp only [c_law19_ConfigMonotone, law19_head_ev, hg, hk, w1, w2, w3, w4, w5, w6, hd, hla, hf, hge, hmin, hmax, h8, lps_lo, progs_lo, gt_iff_lt, Go.Ev.runFunc, Go.Ev.exec, Go.Ev.evOpers, Go.Ev.evOper, Go.Ev.item_op, Go.Ev.item_P, Go.Ev.evOp, Go.Ev.evs, Go.Ev.Opnd.ev, Go.Ev.Env.get, Go.Ev.Env.set, Go.Ev.look, Go.Ev.argVars, Go.Ev.cellsAt, Go.Ev.loadC, Go.Ev.AV.cells, Go.Ev.AV.uc, Go.Ev.plains, Go.Ev.AV.plain, Go.Ev.bin_add, Go.Ev.bin_sub, Go.Ev.bin_eql, Go.Ev.bin_neq, Go.Ev.bin_lss, Go.Ev.bin_geq, Go.Ev.resVals, Go.Ev.resVal, Go.Ev.resOf, Go.Ev.kill, Go.Ev.leave, Go.Ev.storeLo, Go.Ev.lo_v, Go.Ev.lo_agg, Go.Ev.lo_fsl, Go.Ev.los_nil, Go.Ev.los_cons, Go.Ev.frz_lo, List.length_map, ↓Go.Ev.obind, ↓reduceIte, List.length_cons, List.length_nil, List.getElem?_cons_zero, List.getElem?_cons_succ, List.take_succ_cons, List.take_zero, List.take_nil, List.drop_succ_cons, List.drop_zero, List.drop_nil, List.cons_append, List.nil_append, List.append_nil, List.set_cons_zero, List.set_cons_succ, List.head?_cons, Nat.reduceAdd, Nat.reduceEqDiff, Nat.reduceLeDiff, reduceCtorEq, decide_true, decide_false, Bool.and_self, Bool.false_eq_true, and_self, ne_eq, not_false_eq_true, not_true_eq_false, List.cons_ne_nil, Nat.zero_add, Nat.le_refl, eq_self]
    · simp only [c_law19_ConfigMonotone, law19_head_ev, hg, hk, hz, lps_lo, progs_lo, Go.Ev.runFunc, Go.Ev.exec, Go.Ev.evOpers, Go.Ev.evOper, Go.Ev.item_op, Go.Ev.item_P, Go.Ev.evOp, Go.Ev.evs, Go.Ev.Opnd.ev, Go.Ev.Env.get, Go.Ev.Env.set, Go.Ev.look, Go.Ev.argVars, Go.Ev.cellsAt, Go.Ev.loadC, Go.Ev.AV.cells, Go.Ev.plains, Go.Ev.AV.plain, Go.Ev.bin_neq, Go.Ev.resVals, Go.Ev.resVal, Go.Ev.resOf, Go.Ev.kill, Go.Ev.leave, Go.Ev.storeLo, Go.Ev.lo_v, Go.Ev.lo_agg, Go.Ev.lo_fsl, Go.Ev.los_nil, Go.Ev.los_cons, Go.Ev.frz_lo, ↓Go.Ev.obind, ↓reduceIte, List.length_cons, List.length_nil, List.take_succ_cons, List.take_nil, Nat.reduceAdd, Nat.reduceEqDiff, decide_true, Bool.and_self, Bool.false_eq_true, and_self, ne_eq, not_false_eq_true, List.cons_ne_nil, Nat.zero_add, Nat.le_refl, eq_self]
end Go.Proofs.Ytlcakphdkpdenaa.K
