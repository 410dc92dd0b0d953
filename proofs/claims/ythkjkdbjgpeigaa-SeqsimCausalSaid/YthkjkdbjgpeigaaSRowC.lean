/- For every input SeqsimCausal returns true, and its arguments read as before. No conditions. -/
import Derived.Test.YthkjkdbjgpeigaaGA10
set_option linter.unusedSectionVars false
set_option linter.unusedSimpArgs false
set_option linter.unusedVariables false
namespace Go.Proofs.Ythkjkdbjgpeigaa.K
open Go.Ev
set_option linter.unusedSimpArgs false
set_option linter.unusedVariables false
set_option maxRecDepth 10000
def parB (e : Evt) (z : Evt) : Bool := decide (z.key = e.key.take (e.key.length - 1)) && decide (z.time < e.time)
section
variable {c : Cfg} {s : Sim} {h : List Evt}
theorem cau_l4 (H : RunF c s h) (i k a : Nat) (e : Evt) (hek : e.key.length ≤ 1000) (x : List Evt) (hx : s.trace[a]? = some x) (f : Bool) :
    ∃ y, itB (exec (evL T) itL none c_law21_SeqsimCausal_L4) (Ev.settle [5, 6, 9, 10, 11, 12, 13, 14, 15] true 1) ⟨[(5, (.v (.bool (true)))), (6, (.fsl ((s.trace).map evtsC) false)), (9, (.v (.int .i64 (i)))), (10, (.v (.int .i64 (k)))), (11, .ptr 0 0 0 0), (12, (.v (.bool (f)))), (13, (.fsl (((e.key.take (e.key.length - 1))).map intC) false)), (14, (.v (.int .i64 (a)))), (15, (.v (.int .i64 ((0 : Nat)))))], []⟩ [.row 6 [e.r] 0] = some y ∧
      (y.1 = .exit 6 ∧ y.2.1.marks = [] ∧ y.2.2 = [.row 6 [e.r] 0] ∧ Ev.look y.2.1.vars 5 = some (.v (.bool (true))) ∧ Ev.look y.2.1.vars 6 = some (.fsl ((s.trace).map evtsC) false) ∧ Ev.look y.2.1.vars 9 = some (.v (.int .i64 (i))) ∧ Ev.look y.2.1.vars 10 = some (.v (.int .i64 (k))) ∧ Ev.look y.2.1.vars 11 = some (.ptr 0 0 0 0) ∧ Ev.look y.2.1.vars 12 = some (.v (.bool ((f || x.any (parB e))))) ∧ Ev.look y.2.1.vars 13 = some (.fsl (((e.key.take (e.key.length - 1))).map intC) false) ∧ Ev.look y.2.1.vars 14 = some (.v (.int .i64 (a)))) := by
  have hxl := H.rowLen hx
  have hxk := H.key hx
  have key := itB_for (f := exec (evL T) itL none c_law21_SeqsimCausal_L4) (s := Ev.settle [5, 6, 9, 10, 11, 12, 13, 14, 15] true 1) (α := Unit)
    (fun b _ => ⟨[(5, (.v (.bool (true)))), (6, (.fsl ((s.trace).map evtsC) false)), (9, (.v (.int .i64 (i)))), (10, (.v (.int .i64 (k)))), (11, .ptr 0 0 0 0), (12, (.v (.bool ((f || (x.take b).any (parB e)))))), (13, (.fsl (((e.key.take (e.key.length - 1))).map intC) false)), (14, (.v (.int .i64 (a)))), (15, (.v (.int .i64 (b))))], []⟩) (fun _ _ => [.row 6 [e.r] 0])
    (fun _ _ => True) x.length
    (fun y => y.1 = .exit 6 ∧ y.2.1.marks = [] ∧ y.2.2 = [.row 6 [e.r] 0] ∧ Ev.look y.2.1.vars 5 = some (.v (.bool (true))) ∧ Ev.look y.2.1.vars 6 = some (.fsl ((s.trace).map evtsC) false) ∧ Ev.look y.2.1.vars 9 = some (.v (.int .i64 (i))) ∧ Ev.look y.2.1.vars 10 = some (.v (.int .i64 (k))) ∧ Ev.look y.2.1.vars 11 = some (.ptr 0 0 0 0) ∧ Ev.look y.2.1.vars 12 = some (.v (.bool ((f || x.any (parB e))))) ∧ Ev.look y.2.1.vars 13 = some (.fsl (((e.key.take (e.key.length - 1))).map intC) false) ∧ Ev.look y.2.1.vars 14 = some (.v (.int .i64 (a)))) ?_ ?_ 0 () (Nat.zero_le _) trivial
  · simpa only [List.take_zero, List.any_nil, Bool.or_false] using key
  · rintro b _ hb _
    obtain ⟨z, hz⟩ : ∃ e, x[b]? = some e := ⟨_, List.getElem?_eq_getElem hb⟩
    have hb' : (b : Int) < (x.length : Int) := by omega
    have hw : IntKind.i64.wrap ((b : Int) + 1) = ((b + 1 : Nat) : Int) := by rw [w64_small (by omega) (by omega)]; simp
    have e1 : (x.take (b + 1)).any (parB e) = ((x.take b).any (parB e) || parB e z) := by rw [take_next hz, List.any_append]; simp
    have sk := SameKey_ev z.key (e.key.take (e.key.length - 1)) false false (hxk z (List.mem_of_getElem? hz)) (by have := List.length_take_le (e.key.length - 1) e.key; have := List.length_take_le' (e.key.length - 1) e.key; omega)
    refine .inl ⟨(), ?_, trivial⟩
    rw [e1, ← Bool.or_assoc]
    generalize (f || (x.take b).any (parB e)) = f'
    unfold parB
    generalize e.key.take (e.key.length - 1) = P at *
    obtain ⟨et, ek, el, ei, ep, ea⟩ := e
    cases f' with
    | true =>
      simp only [c_law21_SeqsimCausal_L4, Int.natCast_nonneg, Int.toNat_natCast, List.getElem?_map, Option.map_some, hx, hb', hw, Evt.r, evtsC, evss_lo, ints_lo, Ev.exec, Ev.evOpers, Ev.evOper, Ev.item_op, Ev.evOp, Ev.Opnd.ev, Ev.Env.get, Ev.Env.set, Ev.Env.unset, Ev.look, Ev.cellsAt, Ev.loadC, Ev.bin_add, Ev.bin_lss, Ev.settle, Ev.keep, Ev.varsLo, Ev.marksLo, Ev.storeLo, Ev.SObj.lo, Ev.lo_v, Ev.lo_fsl, Ev.lo_ptr, Ev.los_nil, Ev.los_cons, Ev.loss_nil, Ev.loss_cons, List.length_map, ↓Ev.obind, Ev.it1, ↓reduceIte, List.length_cons, List.length_nil, List.take_succ_cons, List.take_nil, List.head?_cons, Nat.reduceEqDiff, decide_true, Bool.and_self, Bool.true_or, Bool.false_eq_true, Bool.true_eq_false, and_self, Nat.zero_add, Nat.lt_add_one, eq_self]
    | false =>
      by_cases hk : z.key = P
      · rw [decide_eq_true hk] at sk
        simp only [c_law21_SeqsimCausal_L4, Int.natCast_nonneg, Int.toNat_natCast, List.getElem?_map, Option.map_some, hx, hz, hb', hk, Evt.r, evtsC, ints_lo, Ev.exec, Ev.evOpers, Ev.evOper, Ev.item_op, Ev.item_P, Ev.evOp, Ev.evs, Ev.Opnd.ev, Ev.Env.get, Ev.Env.set, Ev.Env.unset, Ev.look, Ev.cellsAt, Ev.loadC, Ev.bin_lss, Ev.settle, Ev.keep, Ev.lo_fsl, Ev.los_nil, Ev.los_cons, List.length_map, ↓Ev.obind, Ev.it1, ↓reduceIte, List.length_cons, List.length_nil, List.drop_succ_cons, List.drop_zero, List.head?_cons, Nat.reduceAdd, Nat.reduceEqDiff, decide_true, Bool.and_self, Bool.true_and, Bool.false_or, Bool.false_eq_true, Nat.zero_add, Nat.add_zero, eq_self] at sk ⊢
        simp only [Int.natCast_nonneg, Int.toNat_natCast, List.getElem?_map, Option.map_some, hx, hz, hw, sk, hk, Evt.r, evtsC, evss_lo, ints_lo, Ev.look, Ev.bin_add, Ev.bin_lss, Ev.varsLo, Ev.marksLo, Ev.storeLo, Ev.SObj.lo, Ev.lo_v, Ev.lo_fsl, Ev.lo_ptr, Ev.los_nil, Ev.los_cons, Ev.loss_nil, Ev.loss_cons, ↓reduceIte, List.length_cons, List.length_nil, List.getElem?_cons_zero, List.take_succ_cons, List.take_nil, List.drop_zero, List.head?_cons, Nat.reduceAdd, Nat.reduceEqDiff, decide_true, Bool.and_self, Bool.false_eq_true, and_self, Nat.zero_add, Nat.lt_add_one, eq_self]
      · rw [decide_eq_false hk] at sk
        simp only [c_law21_SeqsimCausal_L4, Int.natCast_nonneg, Int.toNat_natCast, List.getElem?_map, Option.map_some, hx, hz, hb', hw, sk, hk, Evt.r, evtsC, evss_lo, ints_lo, Ev.exec, Ev.evOpers, Ev.evOper, Ev.item_op, Ev.item_P, Ev.evOp, Ev.evs, Ev.Opnd.ev, Ev.Env.get, Ev.Env.set, Ev.Env.unset, Ev.look, Ev.cellsAt, Ev.loadC, Ev.bin_add, Ev.bin_lss, Ev.settle, Ev.keep, Ev.varsLo, Ev.marksLo, Ev.storeLo, Ev.SObj.lo, Ev.lo_v, Ev.lo_fsl, Ev.lo_ptr, Ev.los_nil, Ev.los_cons, Ev.loss_nil, Ev.loss_cons, List.length_map, ↓Ev.obind, Ev.it1, ↓reduceIte, List.length_cons, List.length_nil, List.take_succ_cons, List.take_nil, List.drop_succ_cons, List.drop_zero, List.head?_cons, Nat.reduceAdd, Nat.reduceEqDiff, decide_true, decide_false, Bool.and_self, Bool.or_false, Bool.false_eq_true, and_self, Nat.zero_add, Nat.lt_add_one, eq_self, Bool.false_and]
  · rintro _ _
    simp only [List.take_length]
    simp only [c_law21_SeqsimCausal_L4, Int.natCast_nonneg, Int.toNat_natCast, List.getElem?_map, Option.map_some, hx, Int.lt_irrefl, evtsC, Ev.exec, Ev.evOpers, Ev.evOper, Ev.item_op, Ev.evOp, Ev.Opnd.ev, Ev.Env.get, Ev.Env.set, Ev.look, Ev.cellsAt, Ev.loadC, Ev.bin_lss, List.length_map, ↓Ev.obind, Ev.it1, ↓reduceIte, List.length_cons, List.length_nil, List.head?_cons, Nat.reduceEqDiff, decide_false, Bool.false_eq_true, Nat.zero_add, eq_self]
    exact ⟨_, rfl, rfl, rfl, rfl, rfl, rfl, rfl, rfl, rfl, rfl, rfl, rfl⟩
theorem cau_l3 (H : RunF c s h) (i k : Nat) (e : Evt) (hek : e.key.length ≤ 1000) (f : Bool) (hf : f = true ∨ ∃ x ∈ s.trace, x.any (parB e) = true) :
    ∃ y, itB (exec (evL T) itL none c_law21_SeqsimCausal_L3) (Ev.settle [5, 6, 9, 10, 11, 12, 13, 14] true 1) ⟨[(5, (.v (.bool (true)))), (6, (.fsl ((s.trace).map evtsC) false)), (9, (.v (.int .i64 (i)))), (10, (.v (.int .i64 (k)))), (11, .ptr 0 0 0 0), (12, (.v (.bool (f)))), (13, (.fsl (((e.key.take (e.key.length - 1))).map intC) false)), (14, (.v (.int .i64 ((0 : Nat)))))], []⟩ [.row 6 [e.r] 0] = some y ∧
      (y.1 = .exit 4 ∧ y.2.1.marks = [] ∧ y.2.2 = [.row 6 [e.r] 0] ∧ Ev.look y.2.1.vars 5 = some (.v (.bool (true))) ∧ Ev.look y.2.1.vars 6 = some (.fsl ((s.trace).map evtsC) false) ∧ Ev.look y.2.1.vars 9 = some (.v (.int .i64 (i))) ∧ Ev.look y.2.1.vars 10 = some (.v (.int .i64 (k))) ∧ Ev.look y.2.1.vars 12 = some (.v (.bool (true)))) := by
  obtain ⟨htl, hn8⟩ := H.n
  have key := itB_for (f := exec (evL T) itL none c_law21_SeqsimCausal_L3) (s := Ev.settle [5, 6, 9, 10, 11, 12, 13, 14] true 1) (α := Bool)
    (fun a f => ⟨[(5, (.v (.bool (true)))), (6, (.fsl ((s.trace).map evtsC) false)), (9, (.v (.int .i64 (i)))), (10, (.v (.int .i64 (k)))), (11, .ptr 0 0 0 0), (12, (.v (.bool (f)))), (13, (.fsl (((e.key.take (e.key.length - 1))).map intC) false)), (14, (.v (.int .i64 (a))))], []⟩) (fun _ _ => [.row 6 [e.r] 0])
    (fun a f' => f' = (f || (s.trace.take a).any (fun x => x.any (parB e)))) s.trace.length
    (fun y => y.1 = .exit 4 ∧ y.2.1.marks = [] ∧ y.2.2 = [.row 6 [e.r] 0] ∧ Ev.look y.2.1.vars 5 = some (.v (.bool (true))) ∧ Ev.look y.2.1.vars 6 = some (.fsl ((s.trace).map evtsC) false) ∧ Ev.look y.2.1.vars 9 = some (.v (.int .i64 (i))) ∧ Ev.look y.2.1.vars 10 = some (.v (.int .i64 (k))) ∧ Ev.look y.2.1.vars 12 = some (.v (.bool (true)))) ?_ ?_ 0 f (Nat.zero_le _) (by simp)
  · exact key
  · rintro a f' ha hf'
    obtain ⟨x, hx⟩ : ∃ e, s.trace[a]? = some e := ⟨_, List.getElem?_eq_getElem ha⟩
    have ha' : (a : Int) < (s.trace.length : Int) := by omega
    have hw : IntKind.i64.wrap ((a : Int) + 1) = ((a + 1 : Nat) : Int) := by rw [w64_small (by omega) (by omega)]; simp
    cases hb : f' with
    | true =>
      right
      simp only [c_law21_SeqsimCausal_L3, ha', Evt.r, Ev.exec, Ev.evOpers, Ev.evOper, Ev.item_op, Ev.evOp, Ev.Opnd.ev, Ev.Env.get, Ev.Env.set, Ev.look, Ev.bin_lss, List.length_map, ↓Ev.obind, Ev.it1, ↓reduceIte, Nat.reduceEqDiff, decide_true, Bool.not_true, Bool.false_eq_true, eq_self]
      exact ⟨_, rfl, rfl, rfl, rfl, rfl, rfl, rfl, rfl, rfl⟩
    | false =>
      obtain ⟨⟨y, ev, σ⟩, k1, k2, k3, k4, k5, k6, k7, k8, k9, k10, k11, k12⟩ := cau_l4 H i k a e hek x hx false
      simp only [Int.ofNat_zero, Bool.false_or] at k1 k2 k3 k4 k5 k6 k7 k8 k9 k10 k11 k12
      subst k2; subst k4
      refine .inl ⟨x.any (parB e), ?_, ?_⟩
      · have hlo : loss 1 [e.r] = true := by simp only [loss_cons, loss_nil, evt_lo, Bool.and_self]
        simp only [c_law21_SeqsimCausal_L3, ha', hw, k1, k3, k5, k6, k7, k8, k9, k10, k11, k12, evt_lo, evss_lo, ints_lo, Ev.exec, Ev.evOpers, Ev.evOper, Ev.item_op, Ev.evOp, Ev.Opnd.ev, Ev.Env.get, Ev.Env.set, Ev.look, Ev.bin_add, Ev.bin_lss, Ev.settle, Ev.keep, Ev.varsLo, Ev.marksLo, Ev.storeLo, Ev.SObj.lo, Ev.lo_v, Ev.lo_fsl, Ev.lo_ptr, Ev.loss_nil, Ev.loss_cons, List.length_map, ↓Ev.obind, ↓Ev.itL_itB, Ev.it1, ↓reduceIte, List.length_cons, List.length_nil, List.take_succ_cons, List.take_nil, Nat.reduceEqDiff, decide_true, Bool.and_self, Bool.not_false, and_self, Nat.zero_add, Nat.lt_add_one, eq_self]
      · rw [take_next hx, List.any_append, ← Bool.or_assoc, ← hf', hb]; simp
  · rintro f' hf'
    rw [List.take_length] at hf'
    have hb : f' = true := by
      rw [hf']
      rcases hf with hf | ⟨x, hx, hp⟩
      · rw [hf]; rfl
      · rw [Bool.or_eq_true]; right; rw [List.any_eq_true]; exact ⟨x, hx, hp⟩
    subst hb
    simp only [c_law21_SeqsimCausal_L3, Int.lt_irrefl, Ev.exec, Ev.evOpers, Ev.evOper, Ev.item_op, Ev.evOp, Ev.Opnd.ev, Ev.Env.get, Ev.Env.set, Ev.Env.unset, Ev.look, Ev.bin_lss, List.length_map, ↓Ev.obind, Ev.it1, ↓reduceIte, Nat.reduceEqDiff, decide_false, Bool.false_eq_true, eq_self]
    exact ⟨_, rfl, rfl, rfl, rfl, rfl, rfl, rfl, rfl, rfl⟩
theorem RunF.parent (H : RunF c s h) {i : Nat} {x : List Evt} {e : Evt} (hx : s.trace[i]? = some x) (he : e ∈ x) : 2 ≤ e.key.length ∧ e.key.length ≤ 1000 ∧ (decide (e.key.length = 2) = true ∨ ∃ x ∈ s.trace, x.any (parB e) = true) := by
  have hm := (H.inv.mem hx e he).1
  have hk := (H.inv.ev e (List.mem_append_left _ hm)).key
  have hl := H.len
  refine ⟨hk.1, by omega, ?_⟩
  rcases H.inv.par e (List.mem_append_left _ hm) with h2 | ⟨p, hp, m, h3, h4⟩
  · exact .inl (by simpa using h2)
  · right
    have hpf := H.inv.perm.mem_iff.2 hp
    obtain ⟨l, hl1, hl2⟩ := List.mem_flatten.1 hpf
    refine ⟨l, hl1, List.any_eq_true.2 ⟨p, hl2, ?_⟩⟩
    unfold parB
    rw [Bool.and_eq_true, decide_eq_true_eq, decide_eq_true_eq]
    exact ⟨by rw [h3]; simp, h4⟩
theorem cau_l2 (H : RunF c s h) (i : Nat) (x : List Evt) (hx : s.trace[i]? = some x) :
    ∃ y, itB (exec (evL T) itL none c_law21_SeqsimCausal_L2) (Ev.settle [5, 6, 9, 10] true 0) ⟨[(5, (.v (.bool (true)))), (6, (.fsl ((s.trace).map evtsC) false)), (9, (.v (.int .i64 (i)))), (10, (.v (.int .i64 ((0 : Nat)))))], []⟩ [] = some y ∧
      (y.1 = .exit 2 ∧ y.2.1.marks = [] ∧ y.2.2 = [] ∧ Ev.look y.2.1.vars 5 = some (.v (.bool (true))) ∧ Ev.look y.2.1.vars 6 = some (.fsl ((s.trace).map evtsC) false) ∧ Ev.look y.2.1.vars 9 = some (.v (.int .i64 (i)))) := by
  have hxl := H.rowLen hx
  refine itB_each x (fun k => ⟨[(5, (.v (.bool (true)))), (6, (.fsl ((s.trace).map evtsC) false)), (9, (.v (.int .i64 (i)))), (10, (.v (.int .i64 (k))))], []⟩) [] _ ?_ ?_
  · intro k e hk he
    obtain ⟨h2, h3, h4⟩ := H.parent hx (List.mem_of_getElem? he)
    have hk' : (k : Int) < (x.length : Int) := by omega
    have hw : IntKind.i64.wrap ((k : Int) + 1) = ((k + 1 : Nat) : Int) := by rw [w64_small (by omega) (by omega)]; simp
    obtain ⟨⟨y, ev, σ⟩, k1, k2, k3, k4, k5, k6, k7, k8, k9⟩ := cau_l3 H i k e h3 (decide (e.key.length = 2)) h4
    simp only [Int.ofNat_zero] at k1 k2 k3 k4 k5 k6 k7 k8 k9
    subst k2; subst k4
    have c1 : ¬ (e.key.length : Int) < 2 := by omega
    have w1 : IntKind.i64.wrap ((e.key.length : Int) - 1) = ((e.key.length - 1 : Nat) : Int) := by rw [w64_small (by omega) (by omega)]; omega
    have c2 : (0 : Int) ≤ ((e.key.length - 1 : Nat) : Int) := by omega
    have c3 : ((e.key.length - 1 : Nat) : Int) ≤ (e.key.length : Int) := by omega
    have tk : List.take (e.key.length - 1) (e.key.map intC) = (e.key.take (e.key.length - 1)).map intC := by rw [List.map_take]
    have d2 : decide ((e.key.length : Int) = 2) = decide (e.key.length = 2) := decide_eq_decide.2 (by omega)
    have ok := ints_ok e.key
    obtain ⟨et, ek, el, ei, ep, ea⟩ := e
    simp only [Evt.r] at k1 c1 w1 c2 c3 tk d2 ok
    simp only [c_law21_SeqsimCausal_L2, Int.natCast_nonneg, Int.toNat_natCast, List.getElem?_map, Option.map_some, hx, he, hk', hw, c1, w1, c2, c3, tk, d2, ok, k1, k3, k5, k6, k7, k8, k9, Int.le_refl, Nat.sub_zero, Evt.r, evtsC, evss_lo, ints_lo, Ev.exec, Ev.evOpers, Ev.evOper, Ev.item_op, Ev.evOp, Ev.Opnd.ev, Ev.Env.get, Ev.Env.set, Ev.look, Ev.optInt, Ev.cellsAt, Ev.loadC, Ev.AV.cells, Ev.plains, Ev.AV.plain, Ev.bin_add, Ev.bin_sub, Ev.bin_eql, Ev.bin_lss, Ev.settle, Ev.keep, Ev.varsLo, Ev.marksLo, Ev.storeLo, Ev.SObj.lo, Ev.lo_v, Ev.lo_fsl, Ev.lo_ptr, Ev.los_nil, Ev.los_cons, Ev.loss_nil, Ev.loss_cons, List.length_map, ↓Ev.obind, ↓Ev.itL_itB, Ev.it1, ↓reduceIte, List.length_cons, List.length_nil, List.getElem?_cons_zero, List.take_succ_cons, List.take_zero, List.take_nil, List.drop_succ_cons, List.drop_zero, List.drop_nil, List.nil_append, List.append_nil, List.set_cons_zero, List.head?_cons, Nat.reduceAdd, Nat.reduceEqDiff, Int.reduceToNat, decide_true, decide_false, Bool.and_self, Bool.not_true, Bool.false_eq_true, and_self, ne_eq, not_false_eq_true, List.cons_ne_nil, Nat.zero_add, Nat.lt_add_one, Nat.le_refl, Option.isSome_some, Option.isSome_none, eq_self, implies_true, Bool.false_and]
  · simp only [c_law21_SeqsimCausal_L2, Int.natCast_nonneg, Int.toNat_natCast, List.getElem?_map, Option.map_some, hx, Int.lt_irrefl, evtsC, Ev.exec, Ev.evOpers, Ev.evOper, Ev.item_op, Ev.evOp, Ev.Opnd.ev, Ev.Env.get, Ev.Env.set, Ev.look, Ev.cellsAt, Ev.loadC, Ev.bin_lss, List.length_map, ↓Ev.obind, Ev.it1, ↓reduceIte, List.length_cons, List.length_nil, List.head?_cons, Nat.reduceEqDiff, decide_false, Bool.false_eq_true, Nat.zero_add, eq_self]
    exact ⟨_, rfl, rfl, rfl, rfl, rfl, rfl, rfl⟩
theorem cau_l1 (H : RunF c s h) :
    ∃ y, itB (exec (evL T) itL none c_law21_SeqsimCausal_L1) (Ev.settle [5, 6, 9] true 0) ⟨[(5, (.v (.bool (true)))), (6, (.fsl ((s.trace).map evtsC) false)), (9, (.v (.int .i64 ((0 : Nat)))))], []⟩ [] = some y ∧
      (y.1 = .exit 0 ∧ y.2.1.marks = [] ∧ y.2.2 = [] ∧ Ev.look y.2.1.vars 5 = some (.v (.bool (true)))) := by
  obtain ⟨htl, hn8⟩ := H.n
  refine itB_each s.trace (fun k => ⟨[(5, (.v (.bool (true)))), (6, (.fsl ((s.trace).map evtsC) false)), (9, (.v (.int .i64 (k))))], []⟩) [] _ ?_ ?_
  · intro i x hi hx
    have hi' : (i : Int) < (s.trace.length : Int) := by omega
    have hw : IntKind.i64.wrap ((i : Int) + 1) = ((i + 1 : Nat) : Int) := by rw [w64_small (by omega) (by omega)]; simp
    obtain ⟨⟨y, ev, σ⟩, k1, k2, k3, k4, k5, k6, k7⟩ := cau_l2 H i x hx
    simp only [Int.ofNat_zero] at k1 k2 k3 k4 k5 k6 k7
    subst k2; subst k4
    simp only [c_law21_SeqsimCausal_L1, hi', hw, k1, k3, k5, k6, k7, evss_lo, Ev.exec, Ev.evOpers, Ev.evOper, Ev.item_op, Ev.evOp, Ev.Opnd.ev, Ev.Env.get, Ev.Env.set, Ev.look, Ev.bin_add, Ev.bin_lss, Ev.settle, Ev.keep, Ev.varsLo, Ev.marksLo, Ev.storeLo, Ev.lo_v, Ev.lo_fsl, List.length_map, ↓Ev.obind, ↓Ev.itL_itB, Ev.it1, ↓reduceIte, List.length_nil, List.take_nil, Nat.reduceEqDiff, decide_true, Bool.and_self, and_self, eq_self]
  · simp only [c_law21_SeqsimCausal_L1, Int.lt_irrefl, Ev.exec, Ev.evOpers, Ev.evOper, Ev.item_op, Ev.evOp, Ev.Opnd.ev, Ev.Env.get, Ev.Env.set, Ev.look, Ev.bin_lss, List.length_map, ↓Ev.obind, Ev.it1, ↓reduceIte, Nat.reduceEqDiff, decide_false, Bool.false_eq_true, eq_self]
    exact ⟨_, rfl, rfl, rfl, rfl, rfl⟩
end
theorem law_SeqsimCausal (c : Cfg) (a : Int) (ha : 0 ≤ a ∧ a ≤ 255) : callZ (evL T) n_law21_SeqsimCausal [(.agg [(.fsl ((c.lps).map lpC) false), (.fsl ((c.progs).map progC) false), (.v (.int .i64 (c.look))), (.v (.int .i64 (c.fin))), (.v (.int .i64 (c.cap)))]), (.v (.int .u8 a))] = some (.v (.bool (true))) := by
  have hok := ok_ev c
  rw [callZ, evL_code ext_law21_SeqsimCausal code_law21_SeqsimCausal]
  cases ho : okB c with
  | false =>
    rw [ho] at hok
    simp only [c_law21_SeqsimCausal, law21_head_ev, hok, lps_lo, progs_lo, Ev.runFunc, Ev.exec, Ev.evOpers, Ev.evOper, Ev.item_op, Ev.item_P, Ev.evOp, Ev.evs, Ev.Opnd.ev, Ev.Env.get, Ev.Env.set, Ev.look, Ev.argVars, Ev.cellsAt, Ev.loadC, Ev.AV.cells, Ev.plains, Ev.AV.plain, Ev.resVals, Ev.resVal, Ev.resOf, Ev.kill, Ev.leave, Ev.storeLo, Ev.lo_v, Ev.lo_agg, Ev.lo_fsl, Ev.los_nil, Ev.los_cons, Ev.frz_lo, ↓Ev.obind, ↓reduceIte, List.length_cons, List.length_nil, List.take_succ_cons, List.take_nil, Nat.reduceAdd, Nat.reduceEqDiff, Bool.and_self, Bool.not_false, and_self, ne_eq, not_false_eq_true, List.cons_ne_nil, Nat.zero_add, Nat.le_refl, eq_self]
  | true =>
    rw [ho] at hok
    have G := good_of ho
    have hL := Limit_ev a ha
    obtain ⟨n, hn⟩ : ∃ n : Nat, n = a.toNat % 41 := ⟨_, rfl⟩
    rw [← hn] at hL
    obtain ⟨h, H, Hl, _⟩ := ran G.v n (by omega)
    obtain ⟨L1, _, _, r1⟩ := G.run n (by omega)
    change SInv c (runS c n) h at H
    have F : RunF c (runS c n) h := ⟨H, by omega⟩
    obtain ⟨⟨y, ev, σ⟩, k1, k2, k3, k4, k5⟩ := cau_l1 F
    simp only [Int.ofNat_zero] at k1 k2 k3 k4 k5
    subst k2; subst k4
    simp only [c_law21_SeqsimCausal, law21_head_ev, hok, hL, r1, k1, k3, k5, lps_lo, progs_lo, evss_lo, Ev.runFunc, Ev.exec, Ev.evOpers, Ev.evOper, Ev.item_op, Ev.item_P, Ev.evOp, Ev.evs, Ev.Opnd.ev, Ev.Env.get, Ev.Env.set, Ev.look, Ev.argVars, Ev.cellsAt, Ev.loadC, Ev.AV.cells, Ev.plains, Ev.AV.plain, Ev.resVals, Ev.resVal, Ev.resOf, Ev.kill, Ev.leave, Ev.settle, Ev.keep, Ev.varsLo, Ev.marksLo, Ev.storeLo, Ev.lo_v, Ev.lo_agg, Ev.lo_fsl, Ev.los_nil, Ev.los_cons, Ev.frz_lo, ↓Ev.obind, ↓Ev.itL_itB, ↓reduceIte, List.length_cons, List.length_nil, List.getElem?_cons_zero, List.getElem?_cons_succ, List.take_succ_cons, List.take_nil, Nat.reduceAdd, Nat.reduceEqDiff, reduceCtorEq, Bool.and_self, Bool.not_true, Bool.false_eq_true, and_self, ne_eq, not_false_eq_true, List.cons_ne_nil, Nat.zero_add, Nat.le_refl, eq_self]
end Go.Proofs.Ythkjkdbjgpeigaa.K
namespace Go.Proofs.Ythkjkdbjgpeigaa.K
open Go.Ev
open Go.ChangeShapes Go.WideShapes Go.ChangeAt Go.RowKit
set_option linter.unusedSimpArgs false
set_option linter.unusedVariables false
set_option maxRecDepth 100000 in
theorem seqsimCausal_lifted (os : Os) (started : os.Started) (H : Type) (enc : TypeId × Value → H) :
    ReturnsInHanded {} Try.checked os 5 .any (Rows.seqsimCausalSpec.pre6 enc Try.prog Try.f5 Rows.seqsimCausalRow.domain false) (Rows.seqsimCausalSpec.post enc Try.prog Try.f5 false true false false) := by
  refine returnsInHanded_of_change (C := Try.checked) own started (by kernel_rfl) Try.func5
    (ChangeSpec.witness6 (enc := enc) (C := Try.checked) false ⟨#[], #[.agg #[.slice none 0 0, .slice none 0 0, .int .i64 0, .int .i64 0, .int .i64 0], .int .u8 0], []⟩ 8 (by kernel_rfl) (by kernel_rfl) (by kernel_rfl) (by kernel_rfl)) ?_
  intro W base args ds gs before hval hW hcnd _
  have hargs := isArgs_struct Try.underlying25 data_cfg (isArgs_cell Try.underlying5 rfl data_u8 (isArgs_nil (enc := enc)))
  refine contract_of (P := Try.prog) (fn := Try.f5) (tb := 4) T_ok code_law21_SeqsimCausal (by rw [Try.params5]) hargs ?_ rfl ?_ (by kernel_rfl) Try.underlying4 laid (by decide +kernel) W base args ds gs before hval hW
  · rintro ⟨c, a, _⟩ ⟨hi, h1, _⟩
    exact law_SeqsimCausal c a h1
  · intro ds h
    match ds, h with
    | [_, _], _ => rfl
theorem seqsimCausal_over : Rows.seqsimCausalRow.holds Try.pinned (OpenSpec.ofChange Rows.seqsimCausalSpec) :=
  OpenClaim.holds_of_wide 5 Try.f5 rfl rfl rfl rfl rfl rfl rfl ⟨rfl, rfl, rfl, rfl, rfl⟩ rfl rfl rfl rfl rfl (by kernel_rfl) Try.func5 (by kernel_rfl)
    (of_decide_eq_true (by kernel_rfl)) (by unfold Func.isWrapper; first | (rw [if_pos (by decide +kernel)]; kernel_rfl) | (rw [if_neg (by decide +kernel)]; exact ⟨rfl, rfl⟩))
    (fun os started H enc _ => seqsimCausal_lifted os started H enc)
end Go.Proofs.Ythkjkdbjgpeigaa.K
namespace Go.Proofs.Ythkjkdbjgpeigaa
theorem seqsimCausal_holds : Rows.SeqsimCausalSaid := K.seqsimCausal_over
end Go.Proofs.Ythkjkdbjgpeigaa
#print axioms Go.Proofs.Ythkjkdbjgpeigaa.seqsimCausal_holds
