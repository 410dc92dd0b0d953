/- Part of the proofs about this seat's program (module SInv). -/
import Derived.Test.YtnmpkmakkniidaaSLaw6
set_option linter.unusedSectionVars false
set_option linter.unusedSimpArgs false
set_option linter.unusedVariables false
namespace Go.Proofs.Ytnmpkmakkniidaa.K
open Go.Ev
set_option linter.unusedSimpArgs false
set_option linter.unusedVariables false
theorem pairs_get : ∀ {bs : List (List Item)} {i : Nat} {p : Int × Item}, p ∈ pairs bs i → ∃ (k : Nat) (b : List Item), bs[k]? = some b ∧ p.2 ∈ b ∧ p.1 = ((i + k : Nat) : Int)
  | [], i, p, h => by simp [pairs] at h
  | b :: bs, i, p, h => by
    simp only [pairs, List.mem_append, List.mem_map] at h
    rcases h with ⟨x, hx, rfl⟩ | h
    · exact ⟨0, b, rfl, hx, by simp⟩
    · obtain ⟨k, b', h1, h2, h3⟩ := pairs_get h
      exact ⟨k + 1, b', by simpa using h1, h2, by rw [h3]; omega⟩
theorem total_put {f w : Int} {n : Nat} {s : Int × List (List Item)} (hw : 1 ≤ w) (h : Inv f w n s) (x : Item) (hin : isIn f w x s) : total (putS f w x s).2 = total s.2 + 1 := by
  have hin' := not_or.1 hin
  obtain ⟨p1, p2, p3, p4⟩ := place_ok hw h.cur.1 hin'.1 hin'.2
  obtain ⟨b, hb⟩ : ∃ b, s.2[place f w x.time]? = some b := ⟨_, List.getElem?_eq_getElem (by rw [h.len]; exact p2)⟩
  have hin2 : ¬ (x.time < f + s.1 * w ∨ f + 8 * w ≤ x.time) := hin
  simp only [putS, hin2, if_false, hb, Option.getD_some]
  have := total_set (xs := b ++ [x]) hb
  simp only [List.length_append, List.length_cons, List.length_nil] at this
  omega
theorem total_next {f w : Int} {n : Nat} {s : Int × List (List Item)} (h : Inv f w n s) : total (nextS' s).2 + (outItems s).length = total s.2 := by
  unfold nextS' outItems
  split <;> rename_i hk
  · simp [hk]
  · rename_i k
    obtain ⟨_, b, h2, _⟩ := firstNE_some hk
    have := total_set (xs := []) h2
    rw [hk]
    simp only [h2, Option.getD_some, List.length_nil] at *
    omega
section
variable {f w : Int} {n : Nat} {s : Int × List (List Item)} (hd : Dim f w) (h : Inv f w n s) (hn : n ≤ 2 ^ 32)
include hd h hn
theorem valid_state : callZ (evL T) n_rung_Valid [(.agg [(.v (.int .i64 (f))), (.v (.int .i64 (w))), (.v (.int .i64 (s.1))), (.fsl ((s.2).map bucketC) false)])] = some (.v (.bool (true))) := by
  obtain ⟨q1, q2, q3⟩ := h.small hn
  rw [rung_Valid_ev f w s.1 s.2 q2 fun b hb => (q3 b hb).1]
  have hall : (pairs s.2 0).all (fun p => decide (okItem f w s.1 p)) = true := by
    rw [List.all_eq_true]
    intro p hp
    obtain ⟨k, b, h1, h2, h3⟩ := pairs_get hp
    rw [Nat.zero_add] at h3
    have hk : k < 8 := by rw [← h.len]; exact (List.getElem?_eq_some_iff.1 h1).1
    obtain ⟨g1, g2, g3⟩ := h.all k b p.2 h1 h2
    have e0 : w64 (p.1 + 1) = p.1 + 1 := w64_small (by omega) (by omega)
    have e1 := hd.start (i := p.1) (by omega)
    have e2 := hd.start (i := p.1 + 1) (by omega)
    have hf := hd.f
    have hw := hd.w
    have hm : 0 ≤ (p.1 + 1) * w := Int.mul_nonneg (by omega) (by omega)
    have hm2 : (p.1 + 1) * w ≤ 8 * w := Int.mul_le_mul_of_nonneg_right (by omega) (by omega)
    have e3 : w64 (f + (p.1 + 1) * w - 1) = f + (p.1 + 1) * w - 1 := w64_small (by omega) (by omega)
    rw [decide_eq_true_eq]
    unfold okItem
    rw [e0, e2, e1, e3, h3]
    exact ⟨g1, g2, by omega⟩
  have h8 : ((s.2.length : Nat) : Int) = 8 := by rw [h.len]; rfl
  simp only [validB, hd.f, hd.w, h.cur, h8, hall, and_self, decide_true, Bool.and_self]
end
theorem law_RungInvariant (x y : Int) (hx : 0 ≤ x) (hy : 0 ≤ y) (l : List Op) (c : Bool) (hok : ∀ o ∈ l, o.ok) (o : Op) (ho : o.ok) :
    callZ (evL T) n_law07_RungInvariant [(.v (.int .u64 (x))), (.v (.int .u64 (y))), (.fsl ((l).map Op.c) c), (.agg [(.v (.bool (o.next))), (.v (.int .u64 (o.at_))), (.v (.int .i64 (o.seq)))])] = some (.v (.bool (true))) := by
  have hd := made_dim x y
  have hi := inv_made hd.w.1 l (f := madeF x)
  generalize hs : madeS (madeF x) (madeW y) l = s at hi
  have hmade := law07_Made_ev x y l c hx hy hok
  rw [hs] at hmade
  have hitem := law07_item_ev hd s.1 s.2 o ho
  generalize hz : itemOf (madeF x) (madeW y) o = z at hitem
  have hip := hi.put hd.w.1 z
  have hin := hi.next
  have h1 := rungPut_state hd hi (by omega) z
  have h3 := rungNext_state hd hi (by omega)
  have h8 := rungLen_state hi (by omega)
  have h9 := rungLen_state hip (by omega)
  have h10 := rungLen_state hin (by omega)
  have v1 := valid_state hd hi (by omega)
  have v2 := valid_state hd hip (by omega)
  have v3 := valid_state hd hin (by omega)
  have t1 := total_next hi
  have t2 := hi.tot
  have e2 : IntKind.i64.wrap ((total s.2 : Int) - ((outItems s).length : Int)) = (total (nextS' s).2 : Int) := by rw [w64_small (by omega) (by omega)]; omega
  rw [callZ, evL_code ext_law07_RungInvariant code_law07_RungInvariant]
  by_cases hz : isIn (madeF x) (madeW y) z s
  · have t3 := total_put hd.w.1 hi z hz
    have e1 : IntKind.i64.wrap ((total s.2 : Int) + 1) = (total (putS (madeF x) (madeW y) z s).2 : Int) := by rw [w64_small (by omega) (by omega)]; omega
    simp only [c_law07_RungInvariant, law07_head_ev, hmade, hitem, h1, h3, h8, h9, h10, v1, v2, v3, e1, e2, hz, decide_true, buckets_lo, bucket_lo, items_lo, ops_lo, Op.c, Go.Ev.runFunc, Go.Ev.runRound, Go.Ev.setParams, Go.Ev.rangeIn, Go.Ev.exec, Go.Ev.evOpers, Go.Ev.evOper, Go.Ev.item_op, Go.Ev.item_P, Go.Ev.item_A, Go.Ev.item_I, Go.Ev.item_v, Go.Ev.impO, Go.Ev.AV.shift, Go.Ev.evOp, Go.Ev.evs, Go.Ev.Opnd.ev, Go.Ev.Env.get, Go.Ev.Env.set, Go.Ev.Env.unset, Go.Ev.look, Go.Ev.argVars, Go.Ev.optInt, Go.Ev.cellsAt, Go.Ev.content, Go.Ev.loadC, Go.Ev.fillP, Go.Ev.fillR, Go.Ev.AV.cells, Go.Ev.AV.uc, Go.Ev.plains, Go.Ev.AV.plain, Go.Ev.bin_add, Go.Ev.bin_sub, Go.Ev.bin_mul, Go.Ev.bin_quo, Go.Ev.bin_rem, Go.Ev.bin_eql, Go.Ev.bin_neq, Go.Ev.bin_lss, Go.Ev.bin_leq, Go.Ev.bin_gtr, Go.Ev.bin_geq, Go.Ev.eqCells, Go.Ev.resVals, Go.Ev.resVal, Go.Ev.resOf, Go.Ev.kill, Go.Ev.leave, Go.Ev.settle, Go.Ev.keep, Go.Ev.varsLo, Go.Ev.marksLo, Go.Ev.storeLo, Go.Ev.SObj.lo, Go.Ev.lo_v, Go.Ev.lo_agg, Go.Ev.lo_tup, Go.Ev.lo_fsl, Go.Ev.lo_fptr, Go.Ev.lo_sl, Go.Ev.lo_ptr, Go.Ev.lo_fn, Go.Ev.lo_yld, Go.Ev.los_nil, Go.Ev.los_cons, Go.Ev.loss_nil, Go.Ev.loss_cons, Go.Ev.okRows_nil, Go.Ev.okRows_cons, Go.Ev.frz_lo, Go.Ev.frz_agg, Go.Ev.frz_tup, Go.Ev.frz_own, Go.Ev.omap_los, Go.Ev.omap_nil, Go.Ev.omap_cons, Go.Ev.loss_replicate, Go.Ev.shiftss_lo, Go.Ev.take_map_len, List.length_set, List.replicate_one, List.replicate_zero, List.length_replicate, List.take_replicate, Nat.min_self, List.take_length, List.length_map, List.map_replicate, ↓Go.Ev.obind, ↓Go.Ev.itL_itB, Go.Ev.it1, ↓reduceIte, List.length_cons, List.length_nil, List.length_append, List.getElem?_cons_zero, List.getElem?_cons_succ, List.getElem?_nil, List.take_succ_cons, List.take_zero, List.take_nil, List.drop_succ_cons, List.drop_zero, List.drop_nil, List.cons_append, List.nil_append, List.append_nil, List.set_cons_zero, List.set_cons_succ, List.set_nil, List.head?_cons, Nat.reduceAdd, Nat.reduceEqDiff, Nat.reduceSub, Nat.reduceMul, Nat.reduceLT, Nat.reduceLeDiff, Nat.reducePow, Int.reduceLE, Int.reduceLT, Int.reduceAdd, Int.reduceSub, Int.reduceMul, Int.reducePow, Int.reduceToNat, Int.reduceEq, Int.reduceNe, Int.cast_ofNat_Int, Int.reduceNeg, reduceCtorEq, decide_true, decide_false, Bool.and_self, Bool.and_true, Bool.true_and, Bool.not_true, Bool.not_false, Bool.false_eq_true, Bool.true_eq_false, and_self, and_true, true_and, ne_eq, not_false_eq_true, not_true_eq_false, List.cons_ne_nil, Nat.zero_add, Nat.add_zero, Nat.lt_add_one, Nat.le_refl, Option.isSome_some, Option.isSome_none, eq_self, beq_self_eq_true, bne_self_eq_false, forall_const, implies_true, Bool.false_and, Bool.and_false, false_and, and_false, false_or, or_false, true_or, or_true]
  · have hz' : madeF x = madeF x := rfl
    have hp : putS (madeF x) (madeW y) z s = s := by unfold putS; rw [if_pos (Decidable.not_not.1 hz)]
    have h5 := same_state (f := madeF x) (w := madeW y) hi (by omega)
    rw [hp] at h1
    simp only [c_law07_RungInvariant, law07_head_ev, hmade, hitem, h1, h3, h5, h8, h9, h10, v1, v2, v3, e2, hz, decide_false, buckets_lo, bucket_lo, items_lo, ops_lo, Op.c, Go.Ev.runFunc, Go.Ev.runRound, Go.Ev.setParams, Go.Ev.rangeIn, Go.Ev.exec, Go.Ev.evOpers, Go.Ev.evOper, Go.Ev.item_op, Go.Ev.item_P, Go.Ev.item_A, Go.Ev.item_I, Go.Ev.item_v, Go.Ev.impO, Go.Ev.AV.shift, Go.Ev.evOp, Go.Ev.evs, Go.Ev.Opnd.ev, Go.Ev.Env.get, Go.Ev.Env.set, Go.Ev.Env.unset, Go.Ev.look, Go.Ev.argVars, Go.Ev.optInt, Go.Ev.cellsAt, Go.Ev.content, Go.Ev.loadC, Go.Ev.fillP, Go.Ev.fillR, Go.Ev.AV.cells, Go.Ev.AV.uc, Go.Ev.plains, Go.Ev.AV.plain, Go.Ev.bin_add, Go.Ev.bin_sub, Go.Ev.bin_mul, Go.Ev.bin_quo, Go.Ev.bin_rem, Go.Ev.bin_eql, Go.Ev.bin_neq, Go.Ev.bin_lss, Go.Ev.bin_leq, Go.Ev.bin_gtr, Go.Ev.bin_geq, Go.Ev.eqCells, Go.Ev.resVals, Go.Ev.resVal, Go.Ev.resOf, Go.Ev.kill, Go.Ev.leave, Go.Ev.settle, Go.Ev.keep, Go.Ev.varsLo, Go.Ev.marksLo, Go.Ev.storeLo, Go.Ev.SObj.lo, Go.Ev.lo_v, Go.Ev.lo_agg, Go.Ev.lo_tup, Go.Ev.lo_fsl, Go.Ev.lo_fptr, Go.Ev.lo_sl, Go.Ev.lo_ptr, Go.Ev.lo_fn, Go.Ev.lo_yld, Go.Ev.los_nil, Go.Ev.los_cons, Go.Ev.loss_nil, Go.Ev.loss_cons, Go.Ev.okRows_nil, Go.Ev.okRows_cons, Go.Ev.frz_lo, Go.Ev.frz_agg, Go.Ev.frz_tup, Go.Ev.frz_own, Go.Ev.omap_los, Go.Ev.omap_nil, Go.Ev.omap_cons, Go.Ev.loss_replicate, Go.Ev.shiftss_lo, Go.Ev.take_map_len, List.length_set, List.replicate_one, List.replicate_zero, List.length_replicate, List.take_replicate, Nat.min_self, List.take_length, List.length_map, List.map_replicate, ↓Go.Ev.obind, ↓Go.Ev.itL_itB, Go.Ev.it1, ↓reduceIte, List.length_cons, List.length_nil, List.length_append, List.getElem?_cons_zero, List.getElem?_cons_succ, List.getElem?_nil, List.take_succ_cons, List.take_zero, List.take_nil, List.drop_succ_cons, List.drop_zero, List.drop_nil, List.cons_append, List.nil_append, List.append_nil, List.set_cons_zero, List.set_cons_succ, List.set_nil, List.head?_cons, Nat.reduceAdd, Nat.reduceEqDiff, Nat.reduceSub, Nat.reduceMul, Nat.reduceLT, Nat.reduceLeDiff, Nat.reducePow, Int.reduceLE, Int.reduceLT, Int.reduceAdd, Int.reduceSub, Int.reduceMul, Int.reducePow, Int.reduceToNat, Int.reduceEq, Int.reduceNe, Int.cast_ofNat_Int, Int.reduceNeg, reduceCtorEq, decide_true, decide_false, Bool.and_self, Bool.and_true, Bool.true_and, Bool.not_true, Bool.not_false, Bool.false_eq_true, Bool.true_eq_false, and_self, and_true, true_and, ne_eq, not_false_eq_true, not_true_eq_false, List.cons_ne_nil, Nat.zero_add, Nat.add_zero, Nat.lt_add_one, Nat.le_refl, Option.isSome_some, Option.isSome_none, eq_self, beq_self_eq_true, bne_self_eq_false, forall_const, implies_true, Bool.false_and, Bool.and_false, false_and, and_false, false_or, or_false, true_or, or_true]
end Go.Proofs.Ytnmpkmakkniidaa.K
