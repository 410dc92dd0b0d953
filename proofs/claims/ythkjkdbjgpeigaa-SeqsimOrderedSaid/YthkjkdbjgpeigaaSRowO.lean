/- For every input SeqsimOrdered returns true, and its arguments read as before. No conditions. -/
import Derived.Test.YthkjkdbjgpeigaaGA10
set_option linter.unusedSectionVars false
set_option linter.unusedSimpArgs false
set_option linter.unusedVariables false
namespace Go.Proofs.Ythkjkdbjgpeigaa.K
open Go.Ev
set_option linter.unusedSimpArgs false
set_option linter.unusedVariables false
set_option maxRecDepth 10000
section
variable {c : Cfg} {s : Sim} {h : List Evt}
theorem RunF.pre (H : RunF c s h) {i k : Nat} {x : List Evt} {e : Evt} (hx : s.trace[i]? = some x) (he : x[k]? = some e) : (∀ z ∈ (s.trace.take i).flatten ++ x.take k, ¬ z.key = e.key) ∧ ((s.trace.take i).flatten ++ x.take k).length ≤ 60 := by
  have e1 : s.trace.flatten = ((s.trace.take i).flatten ++ x.take k) ++ (e :: (x.drop (k + 1) ++ (s.trace.drop (i + 1)).flatten)) := by
    have h1 : s.trace = s.trace.take i ++ x :: s.trace.drop (i + 1) := by
      obtain ⟨h2, h3⟩ := List.getElem?_eq_some_iff.1 hx
      rw [← h3, List.getElem_cons_drop, List.take_append_drop]
    have h4 : x = x.take k ++ e :: x.drop (k + 1) := by
      obtain ⟨h2, h3⟩ := List.getElem?_eq_some_iff.1 he
      rw [← h3, List.getElem_cons_drop, List.take_append_drop]
    have h5 : s.trace.flatten = (s.trace.take i).flatten ++ (x ++ (s.trace.drop (i + 1)).flatten) := by
      conv => lhs; rw [h1]
      rw [List.flatten_append, List.flatten_cons]
    rw [h5]
    conv => lhs; rw [h4]
    simp
  have hk := H.inv.flatKeys
  have hl := H.flat
  rw [e1] at hk hl
  rw [List.length_append, List.length_cons] at hl
  have := H.len
  exact ⟨fun z hz => (List.pairwise_append.1 hk).2.2 z hz e (by simp), by omega⟩
section
variable (H : RunF c s h) (i k g : Nat) (x : List Evt) (hx : s.trace[i]? = some x)
include H hx
theorem ord_l3 (e : Evt) (he : x[k]? = some e) (W : List Evt) (hW : ∀ z ∈ W, ¬ z.key = e.key) (hWl : W.length ≤ 60) (hWk : KeysOk W) :
    ∃ y, itB (exec (evL T) itL none c_law21_SeqsimOrdered_L3) (Ev.settle [2, 5, 6, 9, 10, 11, 12] true 1) ⟨[(2, (.fptr [(.fsl ((c.lps).map lpC) false), (.fsl ((c.progs).map progC) false), (.v (.int .i64 (c.look))), (.v (.int .i64 (c.fin))), (.v (.int .i64 (c.cap)))])), (5, (.v (.bool (true)))), (6, (.fsl ((s.trace).map evtsC) false)), (9, .sl 0 g 0 W.length false), (10, (.v (.int .i64 (i)))), (11, (.v (.int .i64 (k)))), (12, (.v (.int .i64 ((0 : Nat)))))], []⟩ [.row 6 ((W).map Evt.r) g] = some y ∧
      (y.1 = .exit 4 ∧ y.2.1.marks = [] ∧ y.2.2 = [.row 6 ((W).map Evt.r) g] ∧ Ev.look y.2.1.vars 2 = some (.fptr [(.fsl ((c.lps).map lpC) false), (.fsl ((c.progs).map progC) false), (.v (.int .i64 (c.look))), (.v (.int .i64 (c.fin))), (.v (.int .i64 (c.cap)))]) ∧ Ev.look y.2.1.vars 5 = some (.v (.bool (true))) ∧ Ev.look y.2.1.vars 6 = some (.fsl ((s.trace).map evtsC) false) ∧ Ev.look y.2.1.vars 9 = some (.sl 0 g 0 W.length false) ∧ Ev.look y.2.1.vars 10 = some (.v (.int .i64 (i))) ∧ Ev.look y.2.1.vars 11 = some (.v (.int .i64 (k)))) := by
  have hek := H.key hx e (List.mem_of_getElem? he)
  have hxl := H.rowLen hx
  refine itB_each W (fun j => ⟨[(2, (.fptr [(.fsl ((c.lps).map lpC) false), (.fsl ((c.progs).map progC) false), (.v (.int .i64 (c.look))), (.v (.int .i64 (c.fin))), (.v (.int .i64 (c.cap)))])), (5, (.v (.bool (true)))), (6, (.fsl ((s.trace).map evtsC) false)), (9, .sl 0 g 0 W.length false), (10, (.v (.int .i64 (i)))), (11, (.v (.int .i64 (k)))), (12, (.v (.int .i64 (j))))], []⟩) [.row 6 ((W).map Evt.r) g] _ ?_ ?_
  · intro j z hj hz
    have hj' : (j : Int) < (W.length : Int) := by omega
    have hw : IntKind.i64.wrap ((j : Int) + 1) = ((j + 1 : Nat) : Int) := by rw [w64_small (by omega) (by omega)]; simp
    have hzm := List.mem_of_getElem? hz
    have sk := SameKey_ev z.key e.key false false (hWk z hzm) hek
    rw [decide_eq_false (hW z hzm)] at sk
    simp only [c_law21_SeqsimOrdered_L3, Int.natCast_nonneg, Int.toNat_natCast, List.getElem?_map, Option.map_some, hx, he, hz, hj, hj', hw, sk, Evt.r, evtsC, lps_lo, progs_lo, evss_lo, evts_lo, ints_lo, Ev.exec, Ev.evOpers, Ev.evOper, Ev.item_op, Ev.item_P, Ev.evOp, Ev.evs, Ev.Opnd.ev, Ev.Env.get, Ev.Env.set, Ev.look, Ev.cellsAt, Ev.loadC, Ev.bin_add, Ev.bin_lss, Ev.settle, Ev.keep, Ev.varsLo, Ev.marksLo, Ev.storeLo, Ev.SObj.lo, Ev.lo_v, Ev.lo_fsl, Ev.lo_fptr, Ev.lo_sl, Ev.los_nil, Ev.los_cons, ↓Ev.obind, Ev.it1, ↓reduceIte, List.length_cons, List.length_nil, List.getElem?_cons_zero, List.take_succ_cons, List.take_nil, List.drop_succ_cons, List.drop_zero, List.head?_cons, Nat.reduceAdd, Nat.reduceEqDiff, decide_true, Bool.and_self, Bool.false_eq_true, and_self, Nat.zero_add, Nat.lt_add_one, eq_self]
  · simp only [c_law21_SeqsimOrdered_L3, Int.lt_irrefl, Ev.exec, Ev.evOpers, Ev.evOper, Ev.item_op, Ev.evOp, Ev.Opnd.ev, Ev.Env.get, Ev.Env.set, Ev.look, Ev.bin_lss, ↓Ev.obind, Ev.it1, ↓reduceIte, Nat.reduceEqDiff, decide_false, Bool.false_eq_true, eq_self]
    exact ⟨_, rfl, rfl, rfl, rfl, rfl, rfl, rfl, rfl, rfl, rfl⟩
end
theorem ord_l2 (H : RunF c s h) (i g0 : Nat) (x : List Evt) (hx : s.trace[i]? = some x) :
    ∃ y, itB (exec (evL T) itL none c_law21_SeqsimOrdered_L2) (Ev.settle [2, 5, 6, 9, 10, 11] true 1) ⟨[(2, (.fptr [(.fsl ((c.lps).map lpC) false), (.fsl ((c.progs).map progC) false), (.v (.int .i64 (c.look))), (.v (.int .i64 (c.fin))), (.v (.int .i64 (c.cap)))])), (5, (.v (.bool (true)))), (6, (.fsl ((s.trace).map evtsC) false)), (9, .sl 0 g0 0 (s.trace.take i).flatten.length false), (10, (.v (.int .i64 (i)))), (11, (.v (.int .i64 ((0 : Nat)))))], []⟩ [.row 6 ((s.trace.take i).flatten.map Evt.r) g0] = some y ∧
      ∃ g : Nat, y.1 = .exit 2 ∧ y.2.1.marks = [] ∧ y.2.2 = [.row 6 ((s.trace.take (i + 1)).flatten.map Evt.r) g] ∧ Ev.look y.2.1.vars 2 = some (.fptr [(.fsl ((c.lps).map lpC) false), (.fsl ((c.progs).map progC) false), (.v (.int .i64 (c.look))), (.v (.int .i64 (c.fin))), (.v (.int .i64 (c.cap)))]) ∧ Ev.look y.2.1.vars 5 = some (.v (.bool (true))) ∧ Ev.look y.2.1.vars 6 = some (.fsl ((s.trace).map evtsC) false) ∧ Ev.look y.2.1.vars 9 = some (.sl 0 g 0 (s.trace.take (i + 1)).flatten.length false) ∧ Ev.look y.2.1.vars 10 = some (.v (.int .i64 (i))) := by
  have hxl := H.rowLen hx
  have hxk := H.key hx
  have key := itB_for (f := exec (evL T) itL none c_law21_SeqsimOrdered_L2) (s := Ev.settle [2, 5, 6, 9, 10, 11] true 1) (α := Nat)
    (fun k g => ⟨[(2, (.fptr [(.fsl ((c.lps).map lpC) false), (.fsl ((c.progs).map progC) false), (.v (.int .i64 (c.look))), (.v (.int .i64 (c.fin))), (.v (.int .i64 (c.cap)))])), (5, (.v (.bool (true)))), (6, (.fsl ((s.trace).map evtsC) false)), (9, .sl 0 g 0 ((s.trace.take i).flatten ++ x.take k).length false), (10, (.v (.int .i64 (i)))), (11, (.v (.int .i64 (k))))], []⟩) (fun k g => [.row 6 (((s.trace.take i).flatten ++ x.take k).map Evt.r) g])
    (fun _ _ => True) x.length
    (fun y => ∃ g : Nat, y.1 = .exit 2 ∧ y.2.1.marks = [] ∧ y.2.2 = [.row 6 ((s.trace.take (i + 1)).flatten.map Evt.r) g] ∧ Ev.look y.2.1.vars 2 = some (.fptr [(.fsl ((c.lps).map lpC) false), (.fsl ((c.progs).map progC) false), (.v (.int .i64 (c.look))), (.v (.int .i64 (c.fin))), (.v (.int .i64 (c.cap)))]) ∧ Ev.look y.2.1.vars 5 = some (.v (.bool (true))) ∧ Ev.look y.2.1.vars 6 = some (.fsl ((s.trace).map evtsC) false) ∧ Ev.look y.2.1.vars 9 = some (.sl 0 g 0 (s.trace.take (i + 1)).flatten.length false) ∧ Ev.look y.2.1.vars 10 = some (.v (.int .i64 (i)))) ?_ ?_ 0 g0 (Nat.zero_le _) trivial
  · simpa only [List.take_zero, List.append_nil] using key
  · rintro k g hk _
    obtain ⟨e, he⟩ : ∃ e, x[k]? = some e := ⟨_, List.getElem?_eq_getElem hk⟩
    obtain ⟨p1, p2⟩ := H.pre hx he
    have hem := H.inv.mem hx e (List.mem_of_getElem? he)
    have hfin := H.inv.fin e hem.1
    have hWk : KeysOk ((s.trace.take i).flatten ++ x.take k) := by
      intro z hz
      rcases List.mem_append.1 hz with hz | hz
      · obtain ⟨l, hl, hzl⟩ := List.mem_flatten.1 hz
        obtain ⟨j, hj⟩ := List.mem_iff_getElem?.1 (List.mem_of_mem_take hl)
        exact H.key hj z hzl
      · exact hxk z (List.mem_of_mem_take hz)
    obtain ⟨⟨y, ev, σ⟩, k1, k2, k3, k4, k5, k6, k7, k8, k9, k10⟩ := ord_l3 H i k g x hx e he _ p1 p2 hWk
    simp only [Int.ofNat_zero] at k1 k2 k3 k4 k5 k6 k7 k8 k9 k10
    subst k2; subst k4
    have hk' : (k : Int) < (x.length : Int) := by omega
    have hw : IntKind.i64.wrap ((k : Int) + 1) = ((k + 1 : Nat) : Int) := by rw [w64_small (by omega) (by omega)]; simp
    have e1 : (s.trace.take i).flatten ++ x.take (k + 1) = ((s.trace.take i).flatten ++ x.take k) ++ [e] := by rw [take_next he, List.append_assoc]
    refine .inl ⟨g + 1, ?_, trivial⟩
    rw [e1]
    generalize (s.trace.take i).flatten ++ x.take k = W at p2 k1 k8 ⊢
    have hc1 : ¬ e.time ≥ c.fin := by omega
    have hcl : e.lp = (i : Int) := hem.2
    have tk : List.take W.length (W.map Evt.r) = W.map Evt.r := List.take_of_length_le (by simp)
    have b : (W.length + 1) * 64 ≤ 140737488355328 := by omega
    have hm : (W ++ [e]).map Evt.r = W.map Evt.r ++ [e.r] := by rw [List.map_append]; rfl
    have hlo : loss 1 (W.map Evt.r ++ [e.r]) = true := by rw [← hm]; exact evts_lo _ _
    rw [hm, List.length_append]
    cases k with
    | zero =>
      obtain ⟨et, ek, el, ei, ep, ea⟩ := e
      simp only at hc1 hcl
      subst hcl
      simp only [Evt.r] at hlo
      have hk0 : (0 : Int) < (x.length : Int) := by omega
      have hw0 : IntKind.i64.wrap 1 = 1 := rfl
      simp only [Int.ofNat_zero] at k1 k10
      simp only [c_law21_SeqsimOrdered_L2, Int.natCast_nonneg, Int.toNat_natCast, List.getElem?_map, Option.map_some, Int.toNat_zero, Int.lt_irrefl, Int.le_refl, gt_iff_lt, hx, he, hk0, hw0, hc1, k1, k3, k5, k6, k7, k8, k9, k10, tk, b, hlo, Evt.r, evtsC, lps_lo, progs_lo, evss_lo, evts_lo, Ev.exec, Ev.evOpers, Ev.evOper, Ev.item_op, Ev.evOp, Ev.appE, Ev.Opnd.ev, Ev.Env.get, Ev.Env.set, Ev.Env.unset, Ev.look, Ev.cellsAt, Ev.content, Ev.loadC, Ev.fillR, Ev.AV.cells, Ev.plains, Ev.AV.plain, Ev.bin_add, Ev.bin_neq, Ev.bin_lss, Ev.bin_gtr, Ev.bin_geq, Ev.settle, Ev.keep, Ev.varsLo, Ev.marksLo, Ev.storeLo, Ev.SObj.lo, Ev.lo_v, Ev.lo_fsl, Ev.lo_fptr, Ev.lo_sl, Ev.los_nil, Ev.los_cons, Ev.okRows_nil, Ev.okRows_cons, List.replicate_one, List.length_map, ↓Ev.obind, ↓Ev.itL_itB, Ev.it1, ↓reduceIte, List.length_cons, List.length_nil, List.getElem?_cons_zero, List.take_succ_cons, List.take_nil, List.drop_succ_cons, List.drop_zero, List.set_cons_zero, List.head?_cons, Nat.reduceAdd, Nat.reduceEqDiff, Nat.reduceMul, Nat.reduceLeDiff, Nat.reducePow, Int.reduceAdd, Int.cast_ofNat_Int, decide_true, decide_false, Bool.and_self, Bool.false_eq_true, and_self, ne_eq, not_false_eq_true, not_true_eq_false, List.cons_ne_nil, Nat.zero_add, Nat.lt_add_one, Nat.le_refl, eq_self]
    | succ q =>
      obtain ⟨e0, he0⟩ : ∃ e0, x[q]? = some e0 := ⟨_, List.getElem?_eq_getElem (by omega)⟩
      have hc := H.inv.lt hx
      rw [List.pairwise_iff_getElem] at hc
      have hc2 := hc q (q + 1) (by omega) (by omega) (by omega)
      rw [(List.getElem?_eq_some_iff.1 he).2, (List.getElem?_eq_some_iff.1 he0).2] at hc2
      have ce := ref03_CompareEvents_ev e0 e (hxk e0 (List.mem_of_getElem? he0)) (hxk e (List.mem_of_getElem? he))
      have hc3 : ¬ cmpE e0 e ≥ 0 := by omega
      have hq0 : ((q + 1 : Nat) : Int) > 0 := by omega
      have hwq : IntKind.i64.wrap (((q + 1 : Nat) : Int) - 1) = (q : Int) := by rw [w64_small (by omega) (by omega)]; omega
      have hn0 : (0 : Int) ≤ ((q + 1 : Nat) : Int) := by omega
      have hnt : (((q + 1 : Nat) : Int)).toNat = q + 1 := by omega
      have hnt0 : ((q : Int)).toNat = q := by omega
      generalize hkk : ((q + 1 : Nat) : Int) = kk at *
      obtain ⟨et, ek, el, ei, ep, ea⟩ := e
      obtain ⟨ft, fk, fl, fi, fp, fa⟩ := e0
      simp only at hc1 hcl ce
      subst hcl
      simp only [Evt.r] at hlo
      simp only [c_law21_SeqsimOrdered_L2, Int.natCast_nonneg, Int.toNat_natCast, List.getElem?_map, Option.map_some, hx, he, he0, hk', hw, hc1, ce, hc3, hq0, hwq, hn0, hnt, hnt0, k1, k3, k5, k6, k7, k8, k9, k10, tk, b, hlo, Evt.r, evtsC, lps_lo, progs_lo, evss_lo, evts_lo, ints_lo, Ev.exec, Ev.evOpers, Ev.evOper, Ev.item_op, Ev.item_P, Ev.evOp, Ev.appE, Ev.evs, Ev.Opnd.ev, Ev.Env.get, Ev.Env.set, Ev.look, Ev.cellsAt, Ev.content, Ev.loadC, Ev.fillR, Ev.AV.cells, Ev.plains, Ev.AV.plain, Ev.bin_add, Ev.bin_sub, Ev.bin_neq, Ev.bin_lss, Ev.bin_gtr, Ev.bin_geq, Ev.settle, Ev.keep, Ev.varsLo, Ev.marksLo, Ev.storeLo, Ev.SObj.lo, Ev.lo_v, Ev.lo_agg, Ev.lo_fsl, Ev.lo_fptr, Ev.lo_sl, Ev.los_nil, Ev.los_cons, Ev.okRows_nil, Ev.okRows_cons, List.replicate_one, List.length_map, ↓Ev.obind, ↓Ev.itL_itB, Ev.it1, ↓reduceIte, List.length_cons, List.length_nil, List.getElem?_cons_zero, List.take_succ_cons, List.take_nil, List.drop_succ_cons, List.drop_zero, List.set_cons_zero, List.head?_cons, Nat.reduceAdd, Nat.reduceEqDiff, Nat.reduceMul, Nat.reduceLeDiff, Nat.reducePow, decide_true, decide_false, Bool.and_self, Bool.false_eq_true, and_self, ne_eq, not_false_eq_true, not_true_eq_false, List.cons_ne_nil, Nat.zero_add, Nat.lt_add_one, Nat.le_refl, eq_self]
  · rintro g _
    have e1 : (s.trace.take i).flatten ++ x.take x.length = (s.trace.take (i + 1)).flatten := by rw [List.take_length, flat_take hx]
    simp only [e1]
    generalize (s.trace.take (i + 1)).flatten = W
    simp only [c_law21_SeqsimOrdered_L2, Int.natCast_nonneg, Int.toNat_natCast, List.getElem?_map, Option.map_some, hx, Int.lt_irrefl, evtsC, Ev.exec, Ev.evOpers, Ev.evOper, Ev.item_op, Ev.evOp, Ev.Opnd.ev, Ev.Env.get, Ev.Env.set, Ev.look, Ev.cellsAt, Ev.loadC, Ev.bin_lss, List.length_map, ↓Ev.obind, Ev.it1, ↓reduceIte, List.length_cons, List.length_nil, List.head?_cons, Nat.reduceEqDiff, decide_false, Bool.false_eq_true, Nat.zero_add, eq_self]
    exact ⟨_, rfl, g, rfl, rfl, rfl, rfl, rfl, rfl, rfl, rfl⟩
theorem ord_l1 (H : RunF c s h) :
    ∃ y, itB (exec (evL T) itL none c_law21_SeqsimOrdered_L1) (Ev.settle [2, 5, 6, 9, 10] true 1) ⟨[(2, (.fptr [(.fsl ((c.lps).map lpC) false), (.fsl ((c.progs).map progC) false), (.v (.int .i64 (c.look))), (.v (.int .i64 (c.fin))), (.v (.int .i64 (c.cap)))])), (5, (.v (.bool (true)))), (6, (.fsl ((s.trace).map evtsC) false)), (9, .sl 0 0 0 0 false), (10, (.v (.int .i64 ((0 : Nat)))))], []⟩ [.row 6 [] 0] = some y ∧
      (y.1 = .exit 0 ∧ y.2.1.marks = [] ∧ (∃ v, y.2.2 = [v]) ∧ Ev.look y.2.1.vars 5 = some (.v (.bool (true)))) := by
  obtain ⟨htl, hn8⟩ := H.n
  have key := itB_for (f := exec (evL T) itL none c_law21_SeqsimOrdered_L1) (s := Ev.settle [2, 5, 6, 9, 10] true 1) (α := Nat)
    (fun i g => ⟨[(2, (.fptr [(.fsl ((c.lps).map lpC) false), (.fsl ((c.progs).map progC) false), (.v (.int .i64 (c.look))), (.v (.int .i64 (c.fin))), (.v (.int .i64 (c.cap)))])), (5, (.v (.bool (true)))), (6, (.fsl ((s.trace).map evtsC) false)), (9, .sl 0 g 0 (s.trace.take i).flatten.length false), (10, (.v (.int .i64 (i))))], []⟩) (fun i g => [.row 6 ((s.trace.take i).flatten.map Evt.r) g])
    (fun _ _ => True) s.trace.length
    (fun y => y.1 = .exit 0 ∧ y.2.1.marks = [] ∧ (∃ v, y.2.2 = [v]) ∧ Ev.look y.2.1.vars 5 = some (.v (.bool (true)))) ?_ ?_ 0 0 (Nat.zero_le _) trivial
  · exact key
  · rintro i g hi _
    obtain ⟨x, hx⟩ : ∃ e, s.trace[i]? = some e := ⟨_, List.getElem?_eq_getElem hi⟩
    obtain ⟨⟨y, ev, σ⟩, k1, g', k2, k3, k4, k5, k6, k7, k8, k9⟩ := ord_l2 H i g x hx
    simp only [Int.ofNat_zero] at k1 k2 k3 k4 k5 k6 k7 k8 k9
    subst k2; subst k4
    have hi' : (i : Int) < (s.trace.length : Int) := by omega
    have hw : IntKind.i64.wrap ((i : Int) + 1) = ((i + 1 : Nat) : Int) := by rw [w64_small (by omega) (by omega)]; simp
    refine .inl ⟨g', ?_, trivial⟩
    generalize (s.trace.take (i + 1)).flatten = W2 at *
    generalize (s.trace.take i).flatten = W at *
    simp only [c_law21_SeqsimOrdered_L1, hi', hw, k1, k3, k5, k6, k7, k8, k9, lps_lo, progs_lo, evss_lo, evts_lo, Ev.exec, Ev.evOpers, Ev.evOper, Ev.item_op, Ev.evOp, Ev.Opnd.ev, Ev.Env.get, Ev.Env.set, Ev.look, Ev.bin_add, Ev.bin_lss, Ev.settle, Ev.keep, Ev.varsLo, Ev.marksLo, Ev.storeLo, Ev.SObj.lo, Ev.lo_v, Ev.lo_fsl, Ev.lo_fptr, Ev.lo_sl, Ev.los_nil, Ev.los_cons, List.length_map, ↓Ev.obind, ↓Ev.itL_itB, Ev.it1, ↓reduceIte, List.length_cons, List.length_nil, List.take_succ_cons, List.take_nil, Nat.reduceEqDiff, decide_true, Bool.and_self, and_self, Nat.zero_add, Nat.lt_add_one, eq_self]
  · rintro g _
    simp only [c_law21_SeqsimOrdered_L1, Int.lt_irrefl, Ev.exec, Ev.evOpers, Ev.evOper, Ev.item_op, Ev.evOp, Ev.Opnd.ev, Ev.Env.get, Ev.Env.set, Ev.look, Ev.bin_lss, List.take_length, List.length_map, ↓Ev.obind, Ev.it1, ↓reduceIte, Nat.reduceEqDiff, decide_false, Bool.false_eq_true, eq_self]
    exact ⟨_, rfl, rfl, rfl, ⟨_, rfl⟩, rfl⟩
end
theorem law_SeqsimOrdered (c : Cfg) (a : Int) (ha : 0 ≤ a ∧ a ≤ 255) : callZ (evL T) n_law21_SeqsimOrdered [(.agg [(.fsl ((c.lps).map lpC) false), (.fsl ((c.progs).map progC) false), (.v (.int .i64 (c.look))), (.v (.int .i64 (c.fin))), (.v (.int .i64 (c.cap)))]), (.v (.int .u8 a))] = some (.v (.bool (true))) := by
  have hok := ok_ev c
  rw [callZ, evL_code ext_law21_SeqsimOrdered code_law21_SeqsimOrdered]
  cases ho : okB c with
  | false =>
    rw [ho] at hok
    simp only [c_law21_SeqsimOrdered, law21_head_ev, hok, lps_lo, progs_lo, Ev.runFunc, Ev.exec, Ev.evOpers, Ev.evOper, Ev.item_op, Ev.item_P, Ev.evOp, Ev.evs, Ev.Opnd.ev, Ev.Env.get, Ev.Env.set, Ev.look, Ev.argVars, Ev.cellsAt, Ev.loadC, Ev.AV.cells, Ev.plains, Ev.AV.plain, Ev.resVals, Ev.resVal, Ev.resOf, Ev.kill, Ev.leave, Ev.storeLo, Ev.lo_v, Ev.lo_agg, Ev.lo_fsl, Ev.los_nil, Ev.los_cons, Ev.frz_lo, ↓Ev.obind, ↓reduceIte, List.length_cons, List.length_nil, List.take_succ_cons, List.take_nil, Nat.reduceAdd, Nat.reduceEqDiff, Bool.and_self, Bool.not_false, and_self, ne_eq, not_false_eq_true, List.cons_ne_nil, Nat.zero_add, Nat.le_refl, eq_self]
  | true =>
    rw [ho] at hok
    have G := good_of ho
    have hL := Limit_ev a ha
    obtain ⟨n, hn⟩ : ∃ n : Nat, n = a.toNat % 41 := ⟨_, rfl⟩
    rw [← hn] at hL
    obtain ⟨h, H, Hl, _⟩ := ran G.v n (by omega)
    obtain ⟨L1, _, _, r1⟩ := G.run n (by omega)
    change SInv c (runS c n) h at H
    have F : RunF c (runS c n) h := ⟨H, by omega⟩
    have l8 := G.v.lps.2
    have q1 := Commits_ev (runS c n).trace false (by rw [H.trl]; omega) (by rw [F.flat]; omega)
    rw [F.flat] at q1
    obtain ⟨⟨y, ev, σ⟩, k1, k2, k3, ⟨v, k4⟩, k5⟩ := ord_l1 F
    simp only [Int.ofNat_zero] at k1 k2 k3 k4 k5
    subst k2; subst k4
    have htl := H.trl
    have c1 : ¬ (h.length : Int) > (n : Int) := by omega
    simp only [c_law21_SeqsimOrdered, law21_head_ev, hok, hL, r1, q1, htl, c1, k1, k3, k5, lps_lo, progs_lo, evss_lo, Ev.runFunc, Ev.exec, Ev.evOpers, Ev.evOper, Ev.item_op, Ev.item_P, Ev.evOp, Ev.evs, Ev.Opnd.ev, Ev.Env.get, Ev.Env.set, Ev.look, Ev.argVars, Ev.cellsAt, Ev.loadC, Ev.AV.cells, Ev.plains, Ev.AV.plain, Ev.bin_neq, Ev.bin_gtr, Ev.resVals, Ev.resVal, Ev.resOf, Ev.kill, Ev.leave, Ev.settle, Ev.keep, Ev.varsLo, Ev.marksLo, Ev.storeLo, Ev.SObj.lo, Ev.lo_v, Ev.lo_agg, Ev.lo_fsl, Ev.lo_fptr, Ev.lo_sl, Ev.los_nil, Ev.los_cons, Ev.loss_nil, Ev.frz_lo, List.length_map, ↓Ev.obind, ↓Ev.itL_itB, ↓reduceIte, List.length_cons, List.length_nil, List.getElem?_cons_zero, List.getElem?_cons_succ, List.take_succ_cons, List.take_zero, List.take_nil, List.drop_zero, List.nil_append, List.head?_cons, Nat.reduceAdd, Nat.reduceEqDiff, Nat.reduceLT, reduceCtorEq, decide_true, decide_false, Bool.and_self, Bool.not_true, Bool.false_eq_true, and_self, ne_eq, not_false_eq_true, not_true_eq_false, List.cons_ne_nil, Nat.zero_add, Nat.lt_add_one, Nat.le_refl, eq_self]
end Go.Proofs.Ythkjkdbjgpeigaa.K
namespace Go.Proofs.Ythkjkdbjgpeigaa.K
open Go.Ev
open Go.ChangeShapes Go.WideShapes Go.ChangeAt Go.RowKit
set_option linter.unusedSimpArgs false
set_option linter.unusedVariables false
set_option maxRecDepth 100000 in
theorem seqsimOrdered_lifted (os : Os) (started : os.Started) (H : Type) (enc : TypeId × Value → H) :
    ReturnsInHanded {} Try.checked os 3 .any (Rows.seqsimOrderedSpec.pre6 enc Try.prog Try.f3 Rows.seqsimOrderedRow.domain false) (Rows.seqsimOrderedSpec.post enc Try.prog Try.f3 false true false false) := by
  refine returnsInHanded_of_change (C := Try.checked) own started (by kernel_rfl) Try.func3
    (ChangeSpec.witness6 (enc := enc) (C := Try.checked) false ⟨#[], #[.agg #[.slice none 0 0, .slice none 0 0, .int .i64 0, .int .i64 0, .int .i64 0], .int .u8 0], []⟩ 8 (by kernel_rfl) (by kernel_rfl) (by kernel_rfl) (by kernel_rfl)) ?_
  intro W base args ds gs before hval hW hcnd _
  have hargs := isArgs_struct Try.underlying25 data_cfg (isArgs_cell Try.underlying5 rfl data_u8 (isArgs_nil (enc := enc)))
  refine contract_of (P := Try.prog) (fn := Try.f3) (tb := 4) T_ok code_law21_SeqsimOrdered (by rw [Try.params3]) hargs ?_ rfl ?_ (by kernel_rfl) Try.underlying4 laid (by decide +kernel) W base args ds gs before hval hW
  · rintro ⟨c, a, _⟩ ⟨hi, h1, _⟩
    exact law_SeqsimOrdered c a h1
  · intro ds h
    match ds, h with
    | [_, _], _ => rfl
theorem seqsimOrdered_over : Rows.seqsimOrderedRow.holds Try.pinned (OpenSpec.ofChange Rows.seqsimOrderedSpec) :=
  OpenClaim.holds_of_wide 3 Try.f3 rfl rfl rfl rfl rfl rfl rfl ⟨rfl, rfl, rfl, rfl, rfl⟩ rfl rfl rfl rfl rfl (by kernel_rfl) Try.func3 (by kernel_rfl)
    (of_decide_eq_true (by kernel_rfl)) (by unfold Func.isWrapper; first | (rw [if_pos (by decide +kernel)]; kernel_rfl) | (rw [if_neg (by decide +kernel)]; exact ⟨rfl, rfl⟩))
    (fun os started H enc _ => seqsimOrdered_lifted os started H enc)
end Go.Proofs.Ythkjkdbjgpeigaa.K
namespace Go.Proofs.Ythkjkdbjgpeigaa
theorem seqsimOrdered_holds : Rows.SeqsimOrderedSaid := K.seqsimOrdered_over
end Go.Proofs.Ythkjkdbjgpeigaa
#print axioms Go.Proofs.Ythkjkdbjgpeigaa.seqsimOrdered_holds
