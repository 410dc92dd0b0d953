/- Part of the proofs about this seat's program (module SAcc). -/
import Derived.Test.YtnmpkmakkniidaaSAdv
set_option linter.unusedSectionVars false
set_option linter.unusedSimpArgs false
set_option linter.unusedVariables false
namespace Go.Proofs.Ytnmpkmakkniidaa.K
open Go.Ev
set_option linter.unusedSimpArgs false
set_option linter.unusedVariables false
/-- The first bucket that is not empty, behind an item's coming in. -/
theorem firstNE_put {bs : List (List Item)} {k : Nat} {b : List Item} {z : Item} (hb : bs[k]? = some b) :
    (firstNE bs = none ∧ b = [] ∧ firstNE (bs.set k (b ++ [z])) = some k) ∨ (∃ j c, firstNE bs = some j ∧ bs[j]? = some c ∧ j < k ∧ firstNE (bs.set k (b ++ [z])) = some j ∧ (bs.set k (b ++ [z]))[j]? = some c) ∨
    (firstNE bs = some k ∧ firstNE (bs.set k (b ++ [z])) = some k) ∨ (∃ j, firstNE bs = some j ∧ k < j ∧ b = [] ∧ firstNE (bs.set k (b ++ [z])) = some k) := by
  have hk := (List.getElem?_eq_some_iff.1 hb).1
  have hself : (bs.set k (b ++ [z]))[k]? = some (b ++ [z]) := by rw [List.getElem?_set_self hk]
  have hne : b ++ [z] ≠ [] := by simp
  have low : ∀ (m : Nat) (u : List Item), m ≤ k → u ∈ (bs.set k (b ++ [z])).take m → u ∈ bs.take m := by
    intro m u hm hu
    rw [List.take_set_of_le hm] at hu
    exact hu
  cases hf : firstNE bs with
  | none =>
    have hall := firstNE_empty hf
    refine .inl ⟨rfl, hall b (List.mem_of_getElem? hb), ?_⟩
    refine firstNE_at (fun u hu => ?_) hself hne
    exact hall u (List.mem_of_mem_take (low k u (Nat.le_refl _) hu))
  | some j =>
    obtain ⟨h1, c, h2, h3⟩ := firstNE_some hf
    rcases Nat.lt_trichotomy j k with hjk | hjk | hjk
    · refine .inr (.inl ⟨j, c, rfl, h2, hjk, ?_, ?_⟩)
      · refine firstNE_at (fun u hu => h1 u (low j u (by omega) hu)) ?_ h3
        rw [List.getElem?_set_ne (by omega)]; exact h2
      · rw [List.getElem?_set_ne (by omega)]; exact h2
    · subst hjk
      exact .inr (.inr (.inl ⟨rfl, firstNE_at (fun u hu => h1 u (low j u (by omega) hu)) hself hne⟩))
    · refine .inr (.inr (.inr ⟨j, rfl, hjk, ?_, ?_⟩))
      · exact h1 b (List.mem_of_getElem? (i := k) (by rw [List.getElem?_take, if_pos hjk]; exact hb))
      · refine firstNE_at (fun u hu => ?_) hself hne
        have hu' := low k u (Nat.le_refl _) hu
        refine h1 u ?_
        rw [← List.take_append_drop k (bs.take j), List.take_take, Nat.min_eq_left (by omega)]
        exact List.mem_append_left _ hu'
section
variable (f w : Int) (s : Int × List (List Item)) (z : Item)
theorem putS_in {b : List Item} (h : isIn f w z s) (hb : s.2[place f w z.time]? = some b) : putS f w z s = (s.1, s.2.set (place f w z.time) (b ++ [z])) := by
  unfold putS
  rw [if_neg h, hb]; rfl
end
theorem item_take (b : List Item) (z : Item) : ((b ++ [z]).map Item.c).take b.length = b.map Item.c := by
  rw [List.map_append]; exact List.take_left' (by simp)
theorem law_RungAccepts (x y : Int) (hx : 0 ≤ x) (hy : 0 ≤ y) (l : List Op) (c : Bool) (hok : ∀ o ∈ l, o.ok) (o : Op) (ho : o.ok) :
    callZ (evL T) n_law07_RungAccepts [(.v (.int .u64 (x))), (.v (.int .u64 (y))), (.fsl ((l).map Op.c) c), (.agg [(.v (.bool (o.next))), (.v (.int .u64 (o.at_))), (.v (.int .i64 (o.seq)))])] = some (.v (.bool (true))) := by
  have hd := made_dim x y
  have hi := inv_made hd.w.1 l (f := madeF x)
  generalize hs : madeS (madeF x) (madeW y) l = s at hi
  have hmade := law07_Made_ev x y l c hx hy hok
  rw [hs] at hmade
  generalize madeF x = f at *
  generalize madeW y = w at *
  have hitem := law07_item_ev hd s.1 s.2 o ho
  generalize itemOf f w o = z at hitem
  have h1 := rungPut_state hd hi (by omega) z
  have h3 := rungNext_state hd hi (by omega)
  have hip := hi.put hd.w.1 z
  have h4 := rungNext_state hd hip (by omega)
  have e1 := rung_Current_ev f w s.1 s.2
  have e2 := rung_End_ev f w s.1 s.2
  rw [hd.start (i := s.1) hi.cur] at e1
  rw [hd.start (i := 8) (by omega)] at e2
  have hf := hd.f
  have hw := hd.w
  rw [callZ, evL_code ext_law07_RungAccepts code_law07_RungAccepts]
  by_cases hin : isIn f w z s
  · have hin' := not_or.1 hin
    obtain ⟨p1, p2, p3, p4⟩ := place_ok hd.w.1 hi.cur.1 hin'.1 hin'.2
    obtain ⟨b, hb⟩ : ∃ b, s.2[place f w z.time]? = some b := ⟨_, List.getElem?_eq_getElem (by rw [hi.len]; exact p2)⟩
    have hS := putS_in f w s z hin hb
    generalize place f w z.time = k at *
    have c1 : z.time ≥ f + s.1 * w := by omega
    have c2 : z.time < f + 8 * w := by omega
    have hself : (s.2.set k (b ++ [z]))[k]? = some (b ++ [z]) := by rw [List.getElem?_set_self (by rw [hi.len]; exact p2)]
    have hout : firstNE s.2 = some k → outItems s = b := fun h => by simp only [outItems, h, hb, Option.getD_some]
    have hm : 0 ≤ (k : Int) * w := Int.mul_nonneg (by omega) (by omega)
    have hm2 : (k : Int) * w ≤ 8 * w := Int.mul_le_mul_of_nonneg_right (by omega) (by omega)
    have hkw : ((k : Int) + 1) * w = k * w + w := by rw [Int.add_mul]; omega
    have g8 : IntKind.i64.wrap (f + k * w + w) = f + k * w + w := w64_small (by omega) (by omega)
    have n1 : ¬ z.time < f + k * w := by omega
    have n2 : ¬ z.time ≥ f + k * w + w := by omega
    have hlb := (hi.small (by omega)).2.2 b (List.mem_of_getElem? hb)
    have hlen : ((b.length + 1 : Nat) : Int) = (b.length : Int) + 1 := by simp
    have g9 : IntKind.i64.wrap ((b.length : Int) + 1 - 1) = b.length := by rw [w64_small (by omega) (by omega)]; omega
    have g10 : ¬ ((b.length : Int) + 1 = 0) := by omega
    have g11 : (b ++ [z])[b.length]? = some z := by simp
    have g12 : (b.length : Int) ≤ (b.length : Int) + 1 := by omega
    rcases firstNE_put (z := z) hb with ⟨q1, q2, q3⟩ | ⟨j, d, q1, q2, q3, q4, q5⟩ | ⟨q1, q2⟩ | ⟨j, q1, q2, q3, q4⟩
    · subst q2
      rw [hS] at h1 h4
      simp only [List.nil_append] at q3 hself
      simp only [outItems, outStart, q1, q3, hself, Option.getD_some, Option.isSome_some, Option.isNone_some, Option.isSome_none, Option.isNone_none, hin, decide_true, List.nil_append, List.map_cons, List.map_nil] at h1 h3 h4
      simp only [c_law07_RungAccepts, law07_head_ev, hmade, hitem, h1, h3, h4, e1, e2, c1, c2, g8, n1, n2, buckets_lo, bucket_lo, items_lo, ops_lo, Op.c, Item.c, Go.Ev.runFunc, Go.Ev.runRound, Go.Ev.setParams, Go.Ev.rangeIn, Go.Ev.exec, Go.Ev.evOpers, Go.Ev.evOper, Go.Ev.item_op, Go.Ev.item_P, Go.Ev.item_A, Go.Ev.item_I, Go.Ev.item_v, Go.Ev.impO, Go.Ev.AV.shift, Go.Ev.evOp, Go.Ev.evs, Go.Ev.Opnd.ev, Go.Ev.Env.get, Go.Ev.Env.set, Go.Ev.Env.unset, Go.Ev.look, Go.Ev.argVars, Go.Ev.optInt, Go.Ev.cellsAt, Go.Ev.content, Go.Ev.loadC, Go.Ev.fillP, Go.Ev.fillR, Go.Ev.AV.cells, Go.Ev.AV.uc, Go.Ev.plains, Go.Ev.AV.plain, Go.Ev.bin_add, Go.Ev.bin_sub, Go.Ev.bin_mul, Go.Ev.bin_quo, Go.Ev.bin_rem, Go.Ev.bin_eql, Go.Ev.bin_neq, Go.Ev.bin_lss, Go.Ev.bin_leq, Go.Ev.bin_gtr, Go.Ev.bin_geq, Go.Ev.eqCells, Go.Ev.resVals, Go.Ev.resVal, Go.Ev.resOf, Go.Ev.kill, Go.Ev.leave, Go.Ev.settle, Go.Ev.keep, Go.Ev.varsLo, Go.Ev.marksLo, Go.Ev.storeLo, Go.Ev.SObj.lo, Go.Ev.lo_v, Go.Ev.lo_agg, Go.Ev.lo_tup, Go.Ev.lo_fsl, Go.Ev.lo_fptr, Go.Ev.lo_sl, Go.Ev.lo_ptr, Go.Ev.lo_fn, Go.Ev.lo_yld, Go.Ev.los_nil, Go.Ev.los_cons, Go.Ev.loss_nil, Go.Ev.loss_cons, Go.Ev.okRows_nil, Go.Ev.okRows_cons, Go.Ev.frz_lo, Go.Ev.frz_agg, Go.Ev.frz_tup, Go.Ev.frz_own, Go.Ev.omap_los, Go.Ev.omap_nil, Go.Ev.omap_cons, Go.Ev.loss_replicate, Go.Ev.shiftss_lo, Go.Ev.take_map_len, List.length_set, List.replicate_one, List.replicate_zero, List.length_replicate, List.take_replicate, Nat.min_self, List.take_length, List.length_map, List.map_replicate, ↓Go.Ev.obind, ↓Go.Ev.itL_itB, Go.Ev.it1, ↓reduceIte, List.length_cons, List.length_nil, List.length_append, List.getElem?_cons_zero, List.getElem?_cons_succ, List.getElem?_nil, List.take_succ_cons, List.take_zero, List.take_nil, List.drop_succ_cons, List.drop_zero, List.drop_nil, List.cons_append, List.nil_append, List.append_nil, List.set_cons_zero, List.set_cons_succ, List.set_nil, List.head?_cons, Nat.reduceAdd, Nat.reduceEqDiff, Nat.reduceSub, Nat.reduceMul, Nat.reduceLT, Nat.reduceLeDiff, Nat.reducePow, Int.reduceLE, Int.reduceLT, Int.reduceAdd, Int.reduceSub, Int.reduceMul, Int.reducePow, Int.reduceToNat, Int.reduceEq, Int.reduceNe, Int.cast_ofNat_Int, Int.reduceNeg, reduceCtorEq, decide_true, decide_false, Bool.and_self, Bool.and_true, Bool.true_and, Bool.not_true, Bool.not_false, Bool.false_eq_true, Bool.true_eq_false, and_self, and_true, true_and, ne_eq, not_false_eq_true, not_true_eq_false, List.cons_ne_nil, Nat.zero_add, Nat.add_zero, Nat.lt_add_one, Nat.le_refl, Option.isSome_some, Option.isSome_none, eq_self, beq_self_eq_true, bne_self_eq_false, forall_const, implies_true, Bool.false_and, Bool.and_false, false_and, and_false, false_or, or_false, true_or, or_true]
    · rw [hS] at h1 h4
      have hne : d ≠ [] := by obtain ⟨_, b', k1, k2⟩ := firstNE_some q1; rw [q2] at k1; cases k1; exact k2
      have hd0 : ¬ ((d.length : Int) = 0) := by have := List.length_pos_iff.2 hne; omega
      have hjm : ((j : Int) + 1) * w ≤ k * w := Int.mul_le_mul_of_nonneg_right (by omega) (by omega)
      have hjw : ((j : Int) + 1) * w = j * w + w := by rw [Int.add_mul]; omega
      have hj0 : 0 ≤ (j : Int) * w := Int.mul_nonneg (by omega) (by omega)
      have r8 : IntKind.i64.wrap (f + j * w + w) = f + j * w + w := w64_small (by omega) (by omega)
      have r1 : ¬ z.time < f + j * w := by omega
      have r2 : z.time ≥ f + j * w + w := by omega
      have hld := (hi.small (by omega)).2.2 d (List.mem_of_getElem? q2)
      have hsame := ref07_SameItems_ev d d false false hld.1
      simp only [decide_true] at hsame
      simp only [outItems, outStart, q1, q4, q2, q5, Option.getD_some, Option.isSome_some, Option.isNone_some, hin, decide_true] at h1 h3 h4
      simp only [c_law07_RungAccepts, law07_head_ev, hmade, hitem, h1, h3, h4, e1, e2, c1, c2, r8, r1, r2, hd0, hsame, buckets_lo, bucket_lo, items_lo, ops_lo, Op.c, Go.Ev.runFunc, Go.Ev.runRound, Go.Ev.setParams, Go.Ev.rangeIn, Go.Ev.exec, Go.Ev.evOpers, Go.Ev.evOper, Go.Ev.item_op, Go.Ev.item_P, Go.Ev.item_A, Go.Ev.item_I, Go.Ev.item_v, Go.Ev.impO, Go.Ev.AV.shift, Go.Ev.evOp, Go.Ev.evs, Go.Ev.Opnd.ev, Go.Ev.Env.get, Go.Ev.Env.set, Go.Ev.Env.unset, Go.Ev.look, Go.Ev.argVars, Go.Ev.optInt, Go.Ev.cellsAt, Go.Ev.content, Go.Ev.loadC, Go.Ev.fillP, Go.Ev.fillR, Go.Ev.AV.cells, Go.Ev.AV.uc, Go.Ev.plains, Go.Ev.AV.plain, Go.Ev.bin_add, Go.Ev.bin_sub, Go.Ev.bin_mul, Go.Ev.bin_quo, Go.Ev.bin_rem, Go.Ev.bin_eql, Go.Ev.bin_neq, Go.Ev.bin_lss, Go.Ev.bin_leq, Go.Ev.bin_gtr, Go.Ev.bin_geq, Go.Ev.eqCells, Go.Ev.resVals, Go.Ev.resVal, Go.Ev.resOf, Go.Ev.kill, Go.Ev.leave, Go.Ev.settle, Go.Ev.keep, Go.Ev.varsLo, Go.Ev.marksLo, Go.Ev.storeLo, Go.Ev.SObj.lo, Go.Ev.lo_v, Go.Ev.lo_agg, Go.Ev.lo_tup, Go.Ev.lo_fsl, Go.Ev.lo_fptr, Go.Ev.lo_sl, Go.Ev.lo_ptr, Go.Ev.lo_fn, Go.Ev.lo_yld, Go.Ev.los_nil, Go.Ev.los_cons, Go.Ev.loss_nil, Go.Ev.loss_cons, Go.Ev.okRows_nil, Go.Ev.okRows_cons, Go.Ev.frz_lo, Go.Ev.frz_agg, Go.Ev.frz_tup, Go.Ev.frz_own, Go.Ev.omap_los, Go.Ev.omap_nil, Go.Ev.omap_cons, Go.Ev.loss_replicate, Go.Ev.shiftss_lo, Go.Ev.take_map_len, List.length_set, List.replicate_one, List.replicate_zero, List.length_replicate, List.take_replicate, Nat.min_self, List.take_length, List.length_map, List.map_replicate, ↓Go.Ev.obind, ↓Go.Ev.itL_itB, Go.Ev.it1, ↓reduceIte, List.length_cons, List.length_nil, List.length_append, List.getElem?_cons_zero, List.getElem?_cons_succ, List.getElem?_nil, List.take_succ_cons, List.take_zero, List.take_nil, List.drop_succ_cons, List.drop_zero, List.drop_nil, List.cons_append, List.nil_append, List.append_nil, List.set_cons_zero, List.set_cons_succ, List.set_nil, List.head?_cons, Nat.reduceAdd, Nat.reduceEqDiff, Nat.reduceSub, Nat.reduceMul, Nat.reduceLT, Nat.reduceLeDiff, Nat.reducePow, Int.reduceLE, Int.reduceLT, Int.reduceAdd, Int.reduceSub, Int.reduceMul, Int.reducePow, Int.reduceToNat, Int.reduceEq, Int.reduceNe, Int.cast_ofNat_Int, Int.reduceNeg, reduceCtorEq, decide_true, decide_false, Bool.and_self, Bool.and_true, Bool.true_and, Bool.not_true, Bool.not_false, Bool.false_eq_true, Bool.true_eq_false, and_self, and_true, true_and, ne_eq, not_false_eq_true, not_true_eq_false, List.cons_ne_nil, Nat.zero_add, Nat.add_zero, Nat.lt_add_one, Nat.le_refl, Option.isSome_some, Option.isSome_none, eq_self, beq_self_eq_true, bne_self_eq_false, forall_const, implies_true, Bool.false_and, Bool.and_false, false_and, and_false, false_or, or_false, true_or, or_true]
    · rw [hS] at h1 h4
      have hsame := ref07_SameItems_ev b b false false hlb.1
      simp only [decide_true] at hsame
      simp only [outItems, outStart, q1, q2, hb, hself, Option.getD_some, Option.isSome_some, Option.isNone_some, hin, decide_true] at h1 h3 h4
      simp only [c_law07_RungAccepts, law07_head_ev, hmade, hitem, h1, h3, h4, e1, e2, c1, c2, g8, n1, n2, hlen, g9, g10, g11, g12, hsame, item_take, items_ok, Int.le_refl, Int.natCast_nonneg, Int.toNat_natCast, Nat.sub_zero, Int.toNat_zero, List.getElem?_map, Option.map_some, buckets_lo, bucket_lo, items_lo, ops_lo, Op.c, Item.c, Go.Ev.runFunc, Go.Ev.runRound, Go.Ev.setParams, Go.Ev.rangeIn, Go.Ev.exec, Go.Ev.evOpers, Go.Ev.evOper, Go.Ev.item_op, Go.Ev.item_P, Go.Ev.item_A, Go.Ev.item_I, Go.Ev.item_v, Go.Ev.impO, Go.Ev.AV.shift, Go.Ev.evOp, Go.Ev.evs, Go.Ev.Opnd.ev, Go.Ev.Env.get, Go.Ev.Env.set, Go.Ev.Env.unset, Go.Ev.look, Go.Ev.argVars, Go.Ev.optInt, Go.Ev.cellsAt, Go.Ev.content, Go.Ev.loadC, Go.Ev.fillP, Go.Ev.fillR, Go.Ev.AV.cells, Go.Ev.AV.uc, Go.Ev.plains, Go.Ev.AV.plain, Go.Ev.bin_add, Go.Ev.bin_sub, Go.Ev.bin_mul, Go.Ev.bin_quo, Go.Ev.bin_rem, Go.Ev.bin_eql, Go.Ev.bin_neq, Go.Ev.bin_lss, Go.Ev.bin_leq, Go.Ev.bin_gtr, Go.Ev.bin_geq, Go.Ev.eqCells, Go.Ev.resVals, Go.Ev.resVal, Go.Ev.resOf, Go.Ev.kill, Go.Ev.leave, Go.Ev.settle, Go.Ev.keep, Go.Ev.varsLo, Go.Ev.marksLo, Go.Ev.storeLo, Go.Ev.SObj.lo, Go.Ev.lo_v, Go.Ev.lo_agg, Go.Ev.lo_tup, Go.Ev.lo_fsl, Go.Ev.lo_fptr, Go.Ev.lo_sl, Go.Ev.lo_ptr, Go.Ev.lo_fn, Go.Ev.lo_yld, Go.Ev.los_nil, Go.Ev.los_cons, Go.Ev.loss_nil, Go.Ev.loss_cons, Go.Ev.okRows_nil, Go.Ev.okRows_cons, Go.Ev.frz_lo, Go.Ev.frz_agg, Go.Ev.frz_tup, Go.Ev.frz_own, Go.Ev.omap_los, Go.Ev.omap_nil, Go.Ev.omap_cons, Go.Ev.loss_replicate, Go.Ev.shiftss_lo, Go.Ev.take_map_len, List.length_set, List.replicate_one, List.replicate_zero, List.length_replicate, List.take_replicate, Nat.min_self, List.take_length, List.length_map, List.map_replicate, ↓Go.Ev.obind, ↓Go.Ev.itL_itB, Go.Ev.it1, ↓reduceIte, List.length_cons, List.length_nil, List.length_append, List.getElem?_cons_zero, List.getElem?_cons_succ, List.getElem?_nil, List.take_succ_cons, List.take_zero, List.take_nil, List.drop_succ_cons, List.drop_zero, List.drop_nil, List.cons_append, List.nil_append, List.append_nil, List.set_cons_zero, List.set_cons_succ, List.set_nil, List.head?_cons, Nat.reduceAdd, Nat.reduceEqDiff, Nat.reduceSub, Nat.reduceMul, Nat.reduceLT, Nat.reduceLeDiff, Nat.reducePow, Int.reduceLE, Int.reduceLT, Int.reduceAdd, Int.reduceSub, Int.reduceMul, Int.reducePow, Int.reduceToNat, Int.reduceEq, Int.reduceNe, Int.cast_ofNat_Int, Int.reduceNeg, reduceCtorEq, decide_true, decide_false, Bool.and_self, Bool.and_true, Bool.true_and, Bool.not_true, Bool.not_false, Bool.false_eq_true, Bool.true_eq_false, and_self, and_true, true_and, ne_eq, not_false_eq_true, not_true_eq_false, List.cons_ne_nil, Nat.zero_add, Nat.add_zero, Nat.lt_add_one, Nat.le_refl, Option.isSome_some, Option.isSome_none, eq_self, beq_self_eq_true, bne_self_eq_false, forall_const, implies_true, Bool.false_and, Bool.and_false, false_and, and_false, false_or, or_false, true_or, or_true]
    · subst q3
      rw [hS] at h1 h4
      simp only [List.nil_append] at q4 hself
      obtain ⟨_, d, k1, k2⟩ := firstNE_some q1
      have hjm : ((k : Int) + 1) * w ≤ j * w := Int.mul_le_mul_of_nonneg_right (by omega) (by omega)
      have r1 : ¬ (f + (j : Int) * w = f + k * w) := by omega
      simp only [outItems, outStart, q1, q4, k1, hself, Option.getD_some, Option.isSome_some, Option.isNone_some, hin, decide_true, List.nil_append, List.map_cons, List.map_nil] at h1 h3 h4
      simp only [c_law07_RungAccepts, law07_head_ev, hmade, hitem, h1, h3, h4, e1, e2, c1, c2, g8, n1, n2, r1, buckets_lo, bucket_lo, items_lo, ops_lo, Op.c, Item.c, Go.Ev.runFunc, Go.Ev.runRound, Go.Ev.setParams, Go.Ev.rangeIn, Go.Ev.exec, Go.Ev.evOpers, Go.Ev.evOper, Go.Ev.item_op, Go.Ev.item_P, Go.Ev.item_A, Go.Ev.item_I, Go.Ev.item_v, Go.Ev.impO, Go.Ev.AV.shift, Go.Ev.evOp, Go.Ev.evs, Go.Ev.Opnd.ev, Go.Ev.Env.get, Go.Ev.Env.set, Go.Ev.Env.unset, Go.Ev.look, Go.Ev.argVars, Go.Ev.optInt, Go.Ev.cellsAt, Go.Ev.content, Go.Ev.loadC, Go.Ev.fillP, Go.Ev.fillR, Go.Ev.AV.cells, Go.Ev.AV.uc, Go.Ev.plains, Go.Ev.AV.plain, Go.Ev.bin_add, Go.Ev.bin_sub, Go.Ev.bin_mul, Go.Ev.bin_quo, Go.Ev.bin_rem, Go.Ev.bin_eql, Go.Ev.bin_neq, Go.Ev.bin_lss, Go.Ev.bin_leq, Go.Ev.bin_gtr, Go.Ev.bin_geq, Go.Ev.eqCells, Go.Ev.resVals, Go.Ev.resVal, Go.Ev.resOf, Go.Ev.kill, Go.Ev.leave, Go.Ev.settle, Go.Ev.keep, Go.Ev.varsLo, Go.Ev.marksLo, Go.Ev.storeLo, Go.Ev.SObj.lo, Go.Ev.lo_v, Go.Ev.lo_agg, Go.Ev.lo_tup, Go.Ev.lo_fsl, Go.Ev.lo_fptr, Go.Ev.lo_sl, Go.Ev.lo_ptr, Go.Ev.lo_fn, Go.Ev.lo_yld, Go.Ev.los_nil, Go.Ev.los_cons, Go.Ev.loss_nil, Go.Ev.loss_cons, Go.Ev.okRows_nil, Go.Ev.okRows_cons, Go.Ev.frz_lo, Go.Ev.frz_agg, Go.Ev.frz_tup, Go.Ev.frz_own, Go.Ev.omap_los, Go.Ev.omap_nil, Go.Ev.omap_cons, Go.Ev.loss_replicate, Go.Ev.shiftss_lo, Go.Ev.take_map_len, List.length_set, List.replicate_one, List.replicate_zero, List.length_replicate, List.take_replicate, Nat.min_self, List.take_length, List.length_map, List.map_replicate, ↓Go.Ev.obind, ↓Go.Ev.itL_itB, Go.Ev.it1, ↓reduceIte, List.length_cons, List.length_nil, List.length_append, List.getElem?_cons_zero, List.getElem?_cons_succ, List.getElem?_nil, List.take_succ_cons, List.take_zero, List.take_nil, List.drop_succ_cons, List.drop_zero, List.drop_nil, List.cons_append, List.nil_append, List.append_nil, List.set_cons_zero, List.set_cons_succ, List.set_nil, List.head?_cons, Nat.reduceAdd, Nat.reduceEqDiff, Nat.reduceSub, Nat.reduceMul, Nat.reduceLT, Nat.reduceLeDiff, Nat.reducePow, Int.reduceLE, Int.reduceLT, Int.reduceAdd, Int.reduceSub, Int.reduceMul, Int.reducePow, Int.reduceToNat, Int.reduceEq, Int.reduceNe, Int.cast_ofNat_Int, Int.reduceNeg, reduceCtorEq, decide_true, decide_false, Bool.and_self, Bool.and_true, Bool.true_and, Bool.not_true, Bool.not_false, Bool.false_eq_true, Bool.true_eq_false, and_self, and_true, true_and, ne_eq, not_false_eq_true, not_true_eq_false, List.cons_ne_nil, Nat.zero_add, Nat.add_zero, Nat.lt_add_one, Nat.le_refl, Option.isSome_some, Option.isSome_none, eq_self, beq_self_eq_true, bne_self_eq_false, forall_const, implies_true, Bool.false_and, Bool.and_false, false_and, and_false, false_or, or_false, true_or, or_true]
  · by_cases c1 : z.time ≥ f + s.1 * w
    · have c2 : ¬ z.time < f + 8 * w := fun h => hin (by unfold isIn; omega)
      simp only [hin, decide_false] at h1
      simp only [c_law07_RungAccepts, law07_head_ev, hmade, hitem, h1, e1, e2, c1, c2, buckets_lo, bucket_lo, items_lo, ops_lo, Op.c, Go.Ev.runFunc, Go.Ev.runRound, Go.Ev.setParams, Go.Ev.rangeIn, Go.Ev.exec, Go.Ev.evOpers, Go.Ev.evOper, Go.Ev.item_op, Go.Ev.item_P, Go.Ev.item_A, Go.Ev.item_I, Go.Ev.item_v, Go.Ev.impO, Go.Ev.AV.shift, Go.Ev.evOp, Go.Ev.evs, Go.Ev.Opnd.ev, Go.Ev.Env.get, Go.Ev.Env.set, Go.Ev.Env.unset, Go.Ev.look, Go.Ev.argVars, Go.Ev.optInt, Go.Ev.cellsAt, Go.Ev.content, Go.Ev.loadC, Go.Ev.fillP, Go.Ev.fillR, Go.Ev.AV.cells, Go.Ev.AV.uc, Go.Ev.plains, Go.Ev.AV.plain, Go.Ev.bin_add, Go.Ev.bin_sub, Go.Ev.bin_mul, Go.Ev.bin_quo, Go.Ev.bin_rem, Go.Ev.bin_eql, Go.Ev.bin_neq, Go.Ev.bin_lss, Go.Ev.bin_leq, Go.Ev.bin_gtr, Go.Ev.bin_geq, Go.Ev.eqCells, Go.Ev.resVals, Go.Ev.resVal, Go.Ev.resOf, Go.Ev.kill, Go.Ev.leave, Go.Ev.settle, Go.Ev.keep, Go.Ev.varsLo, Go.Ev.marksLo, Go.Ev.storeLo, Go.Ev.SObj.lo, Go.Ev.lo_v, Go.Ev.lo_agg, Go.Ev.lo_tup, Go.Ev.lo_fsl, Go.Ev.lo_fptr, Go.Ev.lo_sl, Go.Ev.lo_ptr, Go.Ev.lo_fn, Go.Ev.lo_yld, Go.Ev.los_nil, Go.Ev.los_cons, Go.Ev.loss_nil, Go.Ev.loss_cons, Go.Ev.okRows_nil, Go.Ev.okRows_cons, Go.Ev.frz_lo, Go.Ev.frz_agg, Go.Ev.frz_tup, Go.Ev.frz_own, Go.Ev.omap_los, Go.Ev.omap_nil, Go.Ev.omap_cons, Go.Ev.loss_replicate, Go.Ev.shiftss_lo, Go.Ev.take_map_len, List.length_set, List.replicate_one, List.replicate_zero, List.length_replicate, List.take_replicate, Nat.min_self, List.take_length, List.length_map, List.map_replicate, ↓Go.Ev.obind, ↓Go.Ev.itL_itB, Go.Ev.it1, ↓reduceIte, List.length_cons, List.length_nil, List.length_append, List.getElem?_cons_zero, List.getElem?_cons_succ, List.getElem?_nil, List.take_succ_cons, List.take_zero, List.take_nil, List.drop_succ_cons, List.drop_zero, List.drop_nil, List.cons_append, List.nil_append, List.append_nil, List.set_cons_zero, List.set_cons_succ, List.set_nil, List.head?_cons, Nat.reduceAdd, Nat.reduceEqDiff, Nat.reduceSub, Nat.reduceMul, Nat.reduceLT, Nat.reduceLeDiff, Nat.reducePow, Int.reduceLE, Int.reduceLT, Int.reduceAdd, Int.reduceSub, Int.reduceMul, Int.reducePow, Int.reduceToNat, Int.reduceEq, Int.reduceNe, Int.cast_ofNat_Int, Int.reduceNeg, reduceCtorEq, decide_true, decide_false, Bool.and_self, Bool.and_true, Bool.true_and, Bool.not_true, Bool.not_false, Bool.false_eq_true, Bool.true_eq_false, and_self, and_true, true_and, ne_eq, not_false_eq_true, not_true_eq_false, List.cons_ne_nil, Nat.zero_add, Nat.add_zero, Nat.lt_add_one, Nat.le_refl, Option.isSome_some, Option.isSome_none, eq_self, beq_self_eq_true, bne_self_eq_false, forall_const, implies_true, Bool.false_and, Bool.and_false, false_and, and_false, false_or, or_false, true_or, or_true]
    · simp only [hin, decide_false] at h1
      simp only [c_law07_RungAccepts, law07_head_ev, hmade, hitem, h1, e1, e2, c1, buckets_lo, bucket_lo, items_lo, ops_lo, Op.c, Go.Ev.runFunc, Go.Ev.runRound, Go.Ev.setParams, Go.Ev.rangeIn, Go.Ev.exec, Go.Ev.evOpers, Go.Ev.evOper, Go.Ev.item_op, Go.Ev.item_P, Go.Ev.item_A, Go.Ev.item_I, Go.Ev.item_v, Go.Ev.impO, Go.Ev.AV.shift, Go.Ev.evOp, Go.Ev.evs, Go.Ev.Opnd.ev, Go.Ev.Env.get, Go.Ev.Env.set, Go.Ev.Env.unset, Go.Ev.look, Go.Ev.argVars, Go.Ev.optInt, Go.Ev.cellsAt, Go.Ev.content, Go.Ev.loadC, Go.Ev.fillP, Go.Ev.fillR, Go.Ev.AV.cells, Go.Ev.AV.uc, Go.Ev.plains, Go.Ev.AV.plain, Go.Ev.bin_add, Go.Ev.bin_sub, Go.Ev.bin_mul, Go.Ev.bin_quo, Go.Ev.bin_rem, Go.Ev.bin_eql, Go.Ev.bin_neq, Go.Ev.bin_lss, Go.Ev.bin_leq, Go.Ev.bin_gtr, Go.Ev.bin_geq, Go.Ev.eqCells, Go.Ev.resVals, Go.Ev.resVal, Go.Ev.resOf, Go.Ev.kill, Go.Ev.leave, Go.Ev.settle, Go.Ev.keep, Go.Ev.varsLo, Go.Ev.marksLo, Go.Ev.storeLo, Go.Ev.SObj.lo, Go.Ev.lo_v, Go.Ev.lo_agg, Go.Ev.lo_tup, Go.Ev.lo_fsl, Go.Ev.lo_fptr, Go.Ev.lo_sl, Go.Ev.lo_ptr, Go.Ev.lo_fn, Go.Ev.lo_yld, Go.Ev.los_nil, Go.Ev.los_cons, Go.Ev.loss_nil, Go.Ev.loss_cons, Go.Ev.okRows_nil, Go.Ev.okRows_cons, Go.Ev.frz_lo, Go.Ev.frz_agg, Go.Ev.frz_tup, Go.Ev.frz_own, Go.Ev.omap_los, Go.Ev.omap_nil, Go.Ev.omap_cons, Go.Ev.loss_replicate, Go.Ev.shiftss_lo, Go.Ev.take_map_len, List.length_set, List.replicate_one, List.replicate_zero, List.length_replicate, List.take_replicate, Nat.min_self, List.take_length, List.length_map, List.map_replicate, ↓Go.Ev.obind, ↓Go.Ev.itL_itB, Go.Ev.it1, ↓reduceIte, List.length_cons, List.length_nil, List.length_append, List.getElem?_cons_zero, List.getElem?_cons_succ, List.getElem?_nil, List.take_succ_cons, List.take_zero, List.take_nil, List.drop_succ_cons, List.drop_zero, List.drop_nil, List.cons_append, List.nil_append, List.append_nil, List.set_cons_zero, List.set_cons_succ, List.set_nil, List.head?_cons, Nat.reduceAdd, Nat.reduceEqDiff, Nat.reduceSub, Nat.reduceMul, Nat.reduceLT, Nat.reduceLeDiff, Nat.reducePow, Int.reduceLE, Int.reduceLT, Int.reduceAdd, Int.reduceSub, Int.reduceMul, Int.reducePow, Int.reduceToNat, Int.reduceEq, Int.reduceNe, Int.cast_ofNat_Int, Int.reduceNeg, reduceCtorEq, decide_true, decide_false, Bool.and_self, Bool.and_true, Bool.true_and, Bool.not_true, Bool.not_false, Bool.false_eq_true, Bool.true_eq_false, and_self, and_true, true_and, ne_eq, not_false_eq_true, not_true_eq_false, List.cons_ne_nil, Nat.zero_add, Nat.add_zero, Nat.lt_add_one, Nat.le_refl, Option.isSome_some, Option.isSome_none, eq_self, beq_self_eq_true, bne_self_eq_false, forall_const, implies_true, Bool.false_and, Bool.and_false, false_and, and_false, false_or, or_false, true_or, or_true]
end Go.Proofs.Ytnmpkmakkniidaa.K
