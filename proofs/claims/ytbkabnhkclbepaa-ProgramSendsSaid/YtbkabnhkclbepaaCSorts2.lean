/- Part of the proofs about this seat's program (module CSorts2). -/
import Derived.Test.YtbkabnhkclbepaaCSorts
import Derived.ProofKit
set_option linter.unusedSectionVars false
set_option linter.unusedSimpArgs false
set_option linter.unusedVariables false
namespace Go.Proofs.Ytbkabnhkclbepaa.K
open Go.Ev
set_option linter.unusedSimpArgs false
set_option linter.unusedVariables false
set_option maxRecDepth 10000
section
variable (g : Nat) (cl : Bool) (n : Nat) (V : List Int) (gw : Nat)
theorem rev_ev (P S Q : List Int) (a b : Nat) (ha : a = P.length) (hbb : b = a + S.length) (hS : 0 < S.length) (hn : n = (P ++ (S ++ Q)).length) (hb : n < 2 ^ 61) :
    ∃ S' : List Int, S'.Perm S ∧ (evL T).call n_slices_reverseRangeOrdered_int [.sl 0 g 0 n cl, (.v (.int .i64 (a))), (.v (.int .i64 (b)))] [.row 1 ((P ++ (S ++ Q)).map intC) g, .row 1 (V.map intC) gw] = some (.tup [], [.row 1 ((P ++ (S' ++ Q)).map intC) g, .row 1 (V.map intC) gw]) := by
  have hlen : n = P.length + (S.length + Q.length) := by rw [hn]; simp
  obtain ⟨c, hc⟩ : ∃ c, b = c + 1 := ⟨b - 1, by omega⟩
  have key := itB_while (f := exec (evL T) itL none c_slices_reverseRangeOrdered_int_L1) (s := Ev.settle [0, 6, 7] true 2) (τ := List Int × Nat × Nat)
    (fun s => ⟨[(0, .sl 0 g 0 n cl), (6, (.v (.int .i64 (s.2.1)))), (7, (.v (.int .i64 (s.2.2))))], []⟩) (fun s => [.row 1 ((s.1).map intC) g, .row 1 (V.map intC) gw]) (fun s => s.2.2 - s.2.1)
    (fun s => (∃ S', s.1 = P ++ (S' ++ Q) ∧ S'.Perm S) ∧ a ≤ s.2.1 ∧ s.2.2 + 1 ≤ b)
    (fun y => y.1 = .exit 0 ∧ y.2.1.marks = [] ∧ ∃ S' : List Int, S'.Perm S ∧ y.2.2 = [.row 1 ((P ++ (S' ++ Q)).map intC) g, .row 1 (V.map intC) gw]) ?_ (P ++ (S ++ Q), a, c) ⟨⟨S, rfl, .refl _⟩, Nat.le_refl _, by simp only; omega⟩
  · obtain ⟨⟨y, e, σ⟩, k1, k2, k3, S', k4, k5⟩ := key
    simp only at k1 k2 k3 k5
    subst k2; subst k5
    refine ⟨S', k4, ?_⟩
    have w1 : IntKind.i64.wrap ((b : Int) - 1) = (c : Int) := w64_sub1 hc (by omega)
    rw [evL_code ext_slices_reverseRangeOrdered_int code_slices_reverseRangeOrdered_int]
    simp only [c_slices_reverseRangeOrdered_int, w1, k1, k3, ints_lo, Go.Ev.runFunc, Go.Ev.exec, Go.Ev.evOpers, Go.Ev.evOper, Go.Ev.item_op, Go.Ev.evOp, Go.Ev.Opnd.ev, Go.Ev.Env.get, Go.Ev.Env.set, Go.Ev.look, Go.Ev.argVars, Go.Ev.bin_sub, Go.Ev.resVals, Go.Ev.resOf, Go.Ev.kill, Go.Ev.leave, Go.Ev.settle, Go.Ev.keep, Go.Ev.varsLo, Go.Ev.marksLo, Go.Ev.storeLo, Go.Ev.SObj.lo, Go.Ev.lo_v, Go.Ev.lo_tup, Go.Ev.lo_sl, Go.Ev.los_nil, ↓Go.Ev.obind, ↓Go.Ev.itL_itB, ↓reduceIte, List.length_cons, List.length_nil, List.take_succ_cons, List.take_nil, Nat.reduceAdd, Nat.reduceEqDiff, Nat.reduceLT, reduceCtorEq, decide_true, Bool.and_self, and_self, Nat.zero_add, eq_self]
  · rintro ⟨D, i, j⟩ ⟨⟨S', hD, hp⟩, hi, hj⟩
    simp only at hD hi hj ⊢
    have hl := hp.length_eq
    have hDl : D.length = n := by rw [hD, hlen]; simp [hl]
    by_cases hij : i < j
    case neg =>
      have c1 : ¬ (i : Int) < (j : Int) := by omega
      right
      simp only [c_slices_reverseRangeOrdered_int_L1, c1, Go.Ev.exec, Go.Ev.evOpers, Go.Ev.evOper, Go.Ev.item_op, Go.Ev.evOp, Go.Ev.Opnd.ev, Go.Ev.Env.get, Go.Ev.Env.set, Go.Ev.look, Go.Ev.bin_lss, ↓Go.Ev.obind, Go.Ev.it1, ↓reduceIte, Nat.reduceEqDiff, reduceCtorEq, decide_false, Bool.false_eq_true, eq_self]
      exact ⟨_, rfl, rfl, rfl, S', hp, by rw [hD]⟩
    have c1 : (i : Int) < (j : Int) := by omega
    obtain ⟨x, hx⟩ : ∃ x, D[i]? = some x := ⟨_, List.getElem?_eq_getElem (by omega)⟩
    obtain ⟨y, hy⟩ : ∃ y, D[j]? = some y := ⟨_, List.getElem?_eq_getElem (by omega)⟩
    obtain ⟨m, hm⟩ : ∃ m, j = m + 1 := ⟨j - 1, by omega⟩
    obtain ⟨S2, e1, e2⟩ := seg_swap hD ha hi (by omega) (by omega) (by omega) hx hy
    obtain ⟨z, hz⟩ := swap_get hx hy
    obtain ⟨D1, hD1⟩ : ∃ D1, D1 = (D.set i y).set j x := ⟨_, rfl⟩
    have hr1 : (((D.map intC).set i [(.v (.int .i64 (y)))]).set j [(.v (.int .i64 (x)))]) = D1.map intC := by rw [hD1, List.map_set, List.map_set]; rfl
    have w1 : IntKind.i64.wrap ((i : Int) + 1) = ((i + 1 : Nat) : Int) := w64_add1 (by omega)
    have w2 : IntKind.i64.wrap ((j : Int) - 1) = (m : Int) := w64_sub1 hm (by omega)
    have r1 : i < n := by omega
    have r2 : j < n := by omega
    left
    refine ⟨(D1, i + 1, m), ?_, ⟨⟨S2, by rw [hD1]; exact e1, e2.trans hp⟩, by simp only; omega, by simp only; omega⟩, by simp only; omega⟩
    simp only [c_slices_reverseRangeOrdered_int_L1, Int.natCast_nonneg, Int.toNat_natCast, List.getElem?_map, Option.map_some, c1, hx, hy, hz, hr1, w1, w2, r1, r2, intC, ints_lo, Go.Ev.exec, Go.Ev.evOpers, Go.Ev.evOper, Go.Ev.item_op, Go.Ev.evOp, Go.Ev.Opnd.ev, Go.Ev.Env.get, Go.Ev.Env.set, Go.Ev.look, Go.Ev.cellsAt, Go.Ev.loadC, Go.Ev.AV.cells, Go.Ev.AV.uc, Go.Ev.plains, Go.Ev.AV.plain, Go.Ev.bin_add, Go.Ev.bin_sub, Go.Ev.bin_lss, Go.Ev.settle, Go.Ev.keep, Go.Ev.varsLo, Go.Ev.marksLo, Go.Ev.storeLo, Go.Ev.SObj.lo, Go.Ev.lo_v, Go.Ev.lo_sl, ↓Go.Ev.obind, Go.Ev.it1, ↓reduceIte, List.length_cons, List.length_nil, List.getElem?_cons_zero, List.take_succ_cons, List.take_zero, List.take_nil, List.drop_succ_cons, List.drop_zero, List.drop_nil, List.nil_append, List.append_nil, List.set_cons_zero, List.head?_cons, Nat.reduceEqDiff, Nat.reduceLT, reduceCtorEq, decide_true, Bool.and_self, Bool.false_eq_true, and_self, Nat.zero_add, Nat.le_refl, eq_self]
theorem order2_ev (D : List Int) (hn : n = D.length) (a b : Nat) (ha : a < n) (hb : b < n) (s : Int) :
    ∃ (p q : Nat) (s' : Int), (p = a ∧ q = b ∨ p = b ∧ q = a) ∧ (evL T).call n_slices_order2Ordered_int [.sl 0 g 0 n cl, (.v (.int .i64 (a))), (.v (.int .i64 (b))), .ptr 2 0 0 0] [.row 1 ((D).map intC) g, .row 1 (V.map intC) gw, .row 1 [[(.v (.int .i64 (s)))]] 0] = some (.tup [(.v (.int .i64 (p))), (.v (.int .i64 (q)))], [.row 1 ((D).map intC) g, .row 1 (V.map intC) gw, .row 1 [[(.v (.int .i64 (s')))]] 0]) := by
  obtain ⟨x, hx⟩ : ∃ x, D[a]? = some x := ⟨_, List.getElem?_eq_getElem (by omega)⟩
  obtain ⟨y, hy⟩ : ∃ y, D[b]? = some y := ⟨_, List.getElem?_eq_getElem (by omega)⟩
  have hc := cmp_Less_ev y x
  by_cases hlt : y < x <;> simp only [hlt, decide_true, decide_false] at hc
  · refine ⟨b, a, IntKind.i64.wrap (s + 1), .inr ⟨rfl, rfl⟩, ?_⟩
    rw [evL_code ext_slices_order2Ordered_int code_slices_order2Ordered_int]
    simp only [c_slices_order2Ordered_int, Int.natCast_nonneg, Int.toNat_natCast, List.getElem?_map, Option.map_some, hx, hy, ha, hb, hc, intC, ints_lo, Go.Ev.runFunc, Go.Ev.exec, Go.Ev.evOpers, Go.Ev.evOper, Go.Ev.item_op, Go.Ev.item_P, Go.Ev.evOp, Go.Ev.evs, Go.Ev.Opnd.ev, Go.Ev.Env.get, Go.Ev.Env.set, Go.Ev.look, Go.Ev.argVars, Go.Ev.cellsAt, Go.Ev.loadC, Go.Ev.AV.cells, Go.Ev.AV.uc, Go.Ev.plains, Go.Ev.AV.plain, Go.Ev.bin_add, Go.Ev.resVals, Go.Ev.resVal, Go.Ev.resOf, Go.Ev.kill, Go.Ev.leave, Go.Ev.storeLo, Go.Ev.SObj.lo, Go.Ev.lo_v, Go.Ev.lo_tup, Go.Ev.los_nil, Go.Ev.los_cons, Go.Ev.loss_nil, Go.Ev.loss_cons, ↓Go.Ev.obind, ↓reduceIte, List.length_cons, List.length_nil, List.getElem?_cons_zero, List.getElem?_cons_succ, List.take_succ_cons, List.take_zero, List.take_nil, List.drop_succ_cons, List.drop_zero, List.drop_nil, List.nil_append, List.append_nil, List.set_cons_zero, List.set_cons_succ, List.head?_cons, Nat.reduceAdd, Nat.reduceEqDiff, reduceCtorEq, Bool.and_self, Bool.false_eq_true, and_self, Nat.zero_add, Nat.le_refl, eq_self]
  · refine ⟨a, b, s, .inl ⟨rfl, rfl⟩, ?_⟩
    rw [evL_code ext_slices_order2Ordered_int code_slices_order2Ordered_int]
    simp only [c_slices_order2Ordered_int, Int.natCast_nonneg, Int.toNat_natCast, List.getElem?_map, Option.map_some, hx, hy, ha, hb, hc, intC, ints_lo, Go.Ev.runFunc, Go.Ev.exec, Go.Ev.evOpers, Go.Ev.evOper, Go.Ev.item_op, Go.Ev.item_P, Go.Ev.evOp, Go.Ev.evs, Go.Ev.Opnd.ev, Go.Ev.Env.get, Go.Ev.Env.set, Go.Ev.look, Go.Ev.argVars, Go.Ev.cellsAt, Go.Ev.loadC, Go.Ev.resVals, Go.Ev.resVal, Go.Ev.resOf, Go.Ev.kill, Go.Ev.leave, Go.Ev.storeLo, Go.Ev.SObj.lo, Go.Ev.lo_v, Go.Ev.lo_tup, Go.Ev.los_nil, Go.Ev.los_cons, Go.Ev.loss_nil, Go.Ev.loss_cons, ↓Go.Ev.obind, ↓reduceIte, List.length_cons, List.length_nil, List.getElem?_cons_zero, List.take_succ_cons, List.take_nil, List.drop_zero, List.head?_cons, Nat.reduceAdd, Nat.reduceEqDiff, reduceCtorEq, Bool.and_self, Bool.false_eq_true, and_self, Nat.zero_add, eq_self]
theorem median_ev (D : List Int) (hn : n = D.length) (a b c : Nat) (ha : a < n) (hb : b < n) (hc : c < n) (s : Int) :
    ∃ (m : Nat) (s' : Int), (m = a ∨ m = b ∨ m = c) ∧ (evL T).call n_slices_medianOrdered_int [.sl 0 g 0 n cl, (.v (.int .i64 (a))), (.v (.int .i64 (b))), (.v (.int .i64 (c))), .ptr 2 0 0 0] [.row 1 ((D).map intC) g, .row 1 (V.map intC) gw, .row 1 [[(.v (.int .i64 (s)))]] 0] = some ((.v (.int .i64 (m))), [.row 1 ((D).map intC) g, .row 1 (V.map intC) gw, .row 1 [[(.v (.int .i64 (s')))]] 0]) := by
  obtain ⟨p1, q1, s1, h1, k1⟩ := order2_ev g cl n V gw D hn a b ha hb s
  obtain ⟨p2, q2, s2, h2, k2⟩ := order2_ev g cl n V gw D hn q1 c (by omega) hc s1
  obtain ⟨p3, q3, s3, h3, k3⟩ := order2_ev g cl n V gw D hn p1 p2 (by omega) (by omega) s2
  refine ⟨q3, s3, by omega, ?_⟩
  rw [evL_code ext_slices_medianOrdered_int code_slices_medianOrdered_int]
  simp only [c_slices_medianOrdered_int, k1, k2, k3, ints_lo, Go.Ev.runFunc, Go.Ev.exec, Go.Ev.evOpers, Go.Ev.evOper, Go.Ev.item_op, Go.Ev.item_I, Go.Ev.evOp, Go.Ev.evs, Go.Ev.Opnd.ev, Go.Ev.Env.get, Go.Ev.Env.set, Go.Ev.look, Go.Ev.argVars, Go.Ev.resVals, Go.Ev.resVal, Go.Ev.resOf, Go.Ev.kill, Go.Ev.leave, Go.Ev.storeLo, Go.Ev.SObj.lo, Go.Ev.lo_v, Go.Ev.los_nil, Go.Ev.los_cons, Go.Ev.loss_nil, Go.Ev.loss_cons, ↓Go.Ev.obind, ↓reduceIte, List.length_cons, List.length_nil, List.getElem?_cons_zero, List.getElem?_cons_succ, List.take_succ_cons, List.take_nil, Nat.reduceAdd, Nat.reduceEqDiff, reduceCtorEq, Bool.and_self, and_self, Nat.zero_add, eq_self]
theorem choose_ev (D : List Int) (hn : n = D.length) (a b l : Nat) (hl : b = a + l) (hbn : b ≤ n) (h13 : 13 ≤ l ∧ l < 50) (hb : n < 2 ^ 61) :
    ∃ (p : Nat) (h : Int), a ≤ p ∧ p < b ∧ (evL T).call n_slices_choosePivotOrdered_int [.sl 0 g 0 n cl, (.v (.int .i64 (a))), (.v (.int .i64 (b)))] [.row 1 ((D).map intC) g, .row 1 (V.map intC) gw] = some (.tup [(.v (.int .i64 (p))), (.v (.int .i64 (h)))], [.row 1 ((D).map intC) g, .row 1 (V.map intC) gw]) := by
  obtain ⟨q, hq⟩ : ∃ q, q = l / 4 := ⟨_, rfl⟩
  obtain ⟨m, s, hm, km⟩ := median_ev g cl n V gw D hn (a + q) (a + 2 * q) (a + 3 * q) (by omega) (by omega) (by omega) 0
  have w0 : IntKind.i64.wrap ((b : Int) - (a : Int)) = (l : Int) := w64_sub hl (by omega)
  have w1 : IntKind.i64.wrap ((l : Int).tdiv 4) = (q : Int) := by
    rw [show (l : Int).tdiv 4 = (q : Int) by rw [Int.tdiv_eq_ediv_of_nonneg (by omega)]; omega]; exact w64_small (by omega) (by omega)
  have w2 : IntKind.i64.wrap ((q : Int) * 1) = (q : Int) := by rw [w64_small (by omega) (by omega)]; omega
  have w3 : IntKind.i64.wrap ((q : Int) * 2) = ((2 * q : Nat) : Int) := by rw [w64_small (by omega) (by omega)]; omega
  have w4 : IntKind.i64.wrap ((q : Int) * 3) = ((3 * q : Nat) : Int) := by rw [w64_small (by omega) (by omega)]; omega
  have w5 : IntKind.i64.wrap ((a : Int) + (q : Int)) = ((a + q : Nat) : Int) := w64_add (by omega)
  have w6 : IntKind.i64.wrap ((a : Int) + ((2 * q : Nat) : Int)) = ((a + 2 * q : Nat) : Int) := w64_add (by omega)
  have w7 : IntKind.i64.wrap ((a : Int) + ((3 * q : Nat) : Int)) = ((a + 3 * q : Nat) : Int) := w64_add (by omega)
  have c1 : (l : Int) ≥ 8 := by omega
  have c2 : ¬ (l : Int) ≥ 50 := by omega
  by_cases hs0 : s = 0
  · refine ⟨m, 1, by omega, by omega, ?_⟩
    rw [evL_code ext_slices_choosePivotOrdered_int code_slices_choosePivotOrdered_int]
    subst hs0
    simp only [c_slices_choosePivotOrdered_int, w0, w1, w2, w3, w4, w5, w6, w7, c1, c2, km, ints_lo, Go.Ev.runFunc, Go.Ev.exec, Go.Ev.evOpers, Go.Ev.evOper, Go.Ev.item_op, Go.Ev.item_I, Go.Ev.evOp, Go.Ev.evs, Go.Ev.Opnd.ev, Go.Ev.Env.get, Go.Ev.Env.set, Go.Ev.look, Go.Ev.argVars, Go.Ev.cellsAt, Go.Ev.loadC, Go.Ev.plains, Go.Ev.AV.plain, Go.Ev.bin_add, Go.Ev.bin_sub, Go.Ev.bin_mul, Go.Ev.bin_quo, Go.Ev.bin_eql, Go.Ev.bin_geq, Go.Ev.resVals, Go.Ev.resVal, Go.Ev.resOf, Go.Ev.kill, Go.Ev.leave, Go.Ev.storeLo, Go.Ev.SObj.lo, Go.Ev.lo_v, Go.Ev.lo_tup, Go.Ev.los_nil, Go.Ev.los_cons, ↓Go.Ev.obind, ↓reduceIte, List.length_cons, List.length_nil, List.getElem?_cons_zero, List.getElem?_cons_succ, List.take_succ_cons, List.take_zero, List.drop_zero, List.cons_append, List.nil_append, List.head?_cons, Nat.reduceAdd, Nat.reduceEqDiff, Int.reduceEq, reduceCtorEq, decide_true, decide_false, Bool.and_self, Bool.false_eq_true, and_self, ne_eq, not_false_eq_true, List.cons_ne_nil, Nat.zero_add, eq_self]
  by_cases hs12 : s = 12
  · refine ⟨m, 2, by omega, by omega, ?_⟩
    rw [evL_code ext_slices_choosePivotOrdered_int code_slices_choosePivotOrdered_int]
    subst hs12
    simp only [c_slices_choosePivotOrdered_int, w0, w1, w2, w3, w4, w5, w6, w7, c1, c2, km, ints_lo, Go.Ev.runFunc, Go.Ev.exec, Go.Ev.evOpers, Go.Ev.evOper, Go.Ev.item_op, Go.Ev.item_I, Go.Ev.evOp, Go.Ev.evs, Go.Ev.Opnd.ev, Go.Ev.Env.get, Go.Ev.Env.set, Go.Ev.look, Go.Ev.argVars, Go.Ev.cellsAt, Go.Ev.loadC, Go.Ev.plains, Go.Ev.AV.plain, Go.Ev.bin_add, Go.Ev.bin_sub, Go.Ev.bin_mul, Go.Ev.bin_quo, Go.Ev.bin_eql, Go.Ev.bin_geq, Go.Ev.resVals, Go.Ev.resVal, Go.Ev.resOf, Go.Ev.kill, Go.Ev.leave, Go.Ev.storeLo, Go.Ev.SObj.lo, Go.Ev.lo_v, Go.Ev.lo_tup, Go.Ev.los_nil, Go.Ev.los_cons, ↓Go.Ev.obind, ↓reduceIte, List.length_cons, List.length_nil, List.getElem?_cons_zero, List.getElem?_cons_succ, List.take_succ_cons, List.take_zero, List.drop_zero, List.cons_append, List.nil_append, List.head?_cons, Nat.reduceAdd, Nat.reduceEqDiff, Int.reduceEq, reduceCtorEq, decide_true, decide_false, Bool.and_self, Bool.false_eq_true, and_self, ne_eq, not_false_eq_true, List.cons_ne_nil, Nat.zero_add, eq_self]
  · refine ⟨m, 0, by omega, by omega, ?_⟩
    rw [evL_code ext_slices_choosePivotOrdered_int code_slices_choosePivotOrdered_int]
    simp only [c_slices_choosePivotOrdered_int, w0, w1, w2, w3, w4, w5, w6, w7, c1, c2, km, hs0, hs12, ints_lo, Go.Ev.runFunc, Go.Ev.exec, Go.Ev.evOpers, Go.Ev.evOper, Go.Ev.item_op, Go.Ev.item_I, Go.Ev.evOp, Go.Ev.evs, Go.Ev.Opnd.ev, Go.Ev.Env.get, Go.Ev.Env.set, Go.Ev.look, Go.Ev.argVars, Go.Ev.cellsAt, Go.Ev.loadC, Go.Ev.plains, Go.Ev.AV.plain, Go.Ev.bin_add, Go.Ev.bin_sub, Go.Ev.bin_mul, Go.Ev.bin_quo, Go.Ev.bin_eql, Go.Ev.bin_geq, Go.Ev.resVals, Go.Ev.resVal, Go.Ev.resOf, Go.Ev.kill, Go.Ev.leave, Go.Ev.storeLo, Go.Ev.SObj.lo, Go.Ev.lo_v, Go.Ev.lo_tup, Go.Ev.los_nil, Go.Ev.los_cons, ↓Go.Ev.obind, ↓reduceIte, List.length_cons, List.length_nil, List.getElem?_cons_zero, List.getElem?_cons_succ, List.take_succ_cons, List.take_zero, List.drop_zero, List.cons_append, List.nil_append, List.head?_cons, Nat.reduceAdd, Nat.reduceEqDiff, Int.reduceEq, reduceCtorEq, decide_true, decide_false, Bool.and_self, Bool.false_eq_true, and_self, ne_eq, not_false_eq_true, List.cons_ne_nil, Nat.zero_add, eq_self]
theorem pins_scan (P S Q : List Int) (a b : Nat) (ha : a = P.length) (hbb : b = a + S.length) (hS : 0 < S.length) (hn : n = (P ++ (S ++ Q)).length) (hb : n < 2 ^ 61) :
    ∃ y, itB (exec (evL T) itL none c_slices_partialInsertionSortOrdered_int_L2) (Ev.settle [0, 1, 2, 7, 8] true 2) ⟨[(0, .sl 0 g 0 n cl), (1, (.v (.int .i64 (a)))), (2, (.v (.int .i64 (b)))), (7, (.v (.int .i64 ((a + 1 : Nat))))), (8, (.v (.int .i64 (0))))], []⟩ [.row 1 ((P ++ (S ++ Q)).map intC) g, .row 1 (V.map intC) gw] = some y ∧
      ∃ i : Nat, y.1 = .exit 2 ∧ y.2.1.marks = [] ∧ y.2.2 = [.row 1 ((P ++ (S ++ Q)).map intC) g, .row 1 (V.map intC) gw] ∧ Ev.look y.2.1.vars 0 = some (.sl 0 g 0 n cl) ∧ Ev.look y.2.1.vars 1 = some (.v (.int .i64 (a))) ∧ Ev.look y.2.1.vars 2 = some (.v (.int .i64 (b))) ∧ Ev.look y.2.1.vars 7 = some (.v (.int .i64 (i))) ∧ (i = b → LeI S) := by
  have hlen : n = P.length + (S.length + Q.length) := by rw [hn]; simp
  refine itB_while (τ := Nat) (fun i => ⟨[(0, .sl 0 g 0 n cl), (1, (.v (.int .i64 (a)))), (2, (.v (.int .i64 (b)))), (7, (.v (.int .i64 (i)))), (8, (.v (.int .i64 (0))))], []⟩) (fun _ => [.row 1 ((P ++ (S ++ Q)).map intC) g, .row 1 (V.map intC) gw]) (fun i => b - i)
    (fun i => a + 1 ≤ i ∧ i ≤ b ∧ LeI (S.take (i - a))) _ ?_ (a + 1) ⟨Nat.le_refl _, by omega, ?_⟩
  · rintro i ⟨h1, h2, h3⟩
    by_cases hib : i < b
    case neg =>
      have c1 : ¬ (i : Int) < (b : Int) := by omega
      right
      simp only [c_slices_partialInsertionSortOrdered_int_L2, c1, Go.Ev.exec, Go.Ev.evOpers, Go.Ev.evOper, Go.Ev.item_op, Go.Ev.evOp, Go.Ev.Opnd.ev, Go.Ev.Env.get, Go.Ev.Env.set, Go.Ev.Env.unset, Go.Ev.look, Go.Ev.bin_lss, ↓Go.Ev.obind, Go.Ev.it1, ↓reduceIte, Nat.reduceEqDiff, reduceCtorEq, decide_false, Bool.false_eq_true, eq_self]
      refine ⟨_, rfl, i, rfl, rfl, rfl, rfl, rfl, rfl, rfl, fun e => ?_⟩
      rw [List.take_of_length_le (by omega)] at h3; exact h3
    have c1 : (i : Int) < (b : Int) := by omega
    obtain ⟨m, hm⟩ : ∃ m, i = m + 1 := ⟨i - 1, by omega⟩
    obtain ⟨D, hD⟩ : ∃ D, D = P ++ (S ++ Q) := ⟨_, rfl⟩
    have hDl : D.length = n := by rw [hD]; exact hn.symm
    obtain ⟨x, hx⟩ : ∃ x, D[i]? = some x := ⟨_, List.getElem?_eq_getElem (by omega)⟩
    obtain ⟨y, hy⟩ : ∃ y, D[m]? = some y := ⟨_, List.getElem?_eq_getElem (by omega)⟩
    have w1 : IntKind.i64.wrap ((i : Int) + 1) = ((i + 1 : Nat) : Int) := w64_add1 (by omega)
    have w2 : IntKind.i64.wrap ((i : Int) - 1) = (m : Int) := w64_sub1 hm (by omega)
    have r1 : i < n := by omega
    have r2 : m < n := by omega
    have hc := cmp_Less_ev x y
    rw [← hD]
    by_cases hlt : x < y <;> simp only [hlt, decide_true, decide_false] at hc
    · right
      simp only [c_slices_partialInsertionSortOrdered_int_L2, Int.natCast_nonneg, Int.toNat_natCast, List.getElem?_map, Option.map_some, c1, hx, hy, w2, r1, r2, hc, intC, Go.Ev.exec, Go.Ev.evOpers, Go.Ev.evOper, Go.Ev.item_op, Go.Ev.item_P, Go.Ev.evOp, Go.Ev.evs, Go.Ev.Opnd.ev, Go.Ev.Env.get, Go.Ev.Env.set, Go.Ev.look, Go.Ev.cellsAt, Go.Ev.loadC, Go.Ev.bin_sub, Go.Ev.bin_lss, Go.Ev.lo_v, Go.Ev.los_nil, Go.Ev.los_cons, ↓Go.Ev.obind, Go.Ev.it1, ↓reduceIte, List.getElem?_cons_zero, List.drop_zero, List.head?_cons, Nat.reduceEqDiff, reduceCtorEq, decide_true, Bool.and_self, Bool.not_true, Bool.false_eq_true, and_self, Nat.zero_add, eq_self]
      exact ⟨_, rfl, i, rfl, rfl, rfl, rfl, rfl, rfl, rfl, fun e => by omega⟩
    · left
      refine ⟨i + 1, ?_, ⟨by omega, by omega, ?_⟩, by omega⟩
      · simp only [c_slices_partialInsertionSortOrdered_int_L2, Int.natCast_nonneg, Int.toNat_natCast, List.getElem?_map, Option.map_some, c1, hx, hy, w1, w2, r1, r2, hc, intC, ints_lo, Go.Ev.exec, Go.Ev.evOpers, Go.Ev.evOper, Go.Ev.item_op, Go.Ev.item_P, Go.Ev.evOp, Go.Ev.evs, Go.Ev.Opnd.ev, Go.Ev.Env.get, Go.Ev.Env.set, Go.Ev.look, Go.Ev.cellsAt, Go.Ev.loadC, Go.Ev.bin_add, Go.Ev.bin_sub, Go.Ev.bin_lss, Go.Ev.settle, Go.Ev.keep, Go.Ev.varsLo, Go.Ev.marksLo, Go.Ev.storeLo, Go.Ev.SObj.lo, Go.Ev.lo_v, Go.Ev.lo_sl, Go.Ev.los_nil, Go.Ev.los_cons, ↓Go.Ev.obind, Go.Ev.it1, ↓reduceIte, List.getElem?_cons_zero, List.take_succ_cons, List.take_nil, List.drop_zero, List.head?_cons, Nat.reduceEqDiff, Nat.reduceLT, reduceCtorEq, decide_true, Bool.and_self, Bool.not_false, Bool.false_eq_true, and_self, Nat.zero_add, eq_self]
      · have gx : S[i - a]? = some x := by rw [← hx]; exact (get_in hD (by omega) (by omega)).symm
        have gy : S[m - a]? = some y := by rw [← hy]; exact (get_in hD (by omega) (by omega)).symm
        rw [show i + 1 - a = (i - a) + 1 by omega, take_next gx]
        refine insert_int (B := []) (by rw [List.append_nil]; exact h3) (fun u hu => ?_) (fun v hv => by simp at hv)
        have hl : (S.take (i - a)).length = i - a := by simp; omega
        rw [hl, List.getElem?_take_of_lt (by omega), show i - a - 1 = m - a by omega, gy] at hu
        cases hu; omega
  · rw [show a + 1 - a = 1 by omega]
    cases S with
    | nil => simp at hS
    | cons x S => simp [LeI]
theorem pins_ev (P S Q : List Int) (a b : Nat) (ha : a = P.length) (hbb : b = a + S.length) (hS : 0 < S.length ∧ S.length < 50) (hn : n = (P ++ (S ++ Q)).length) (hb : n < 2 ^ 61) :
    ∃ r : Bool, (r = true → LeI S) ∧ (evL T).call n_slices_partialInsertionSortOrdered_int [.sl 0 g 0 n cl, (.v (.int .i64 (a))), (.v (.int .i64 (b)))] [.row 1 ((P ++ (S ++ Q)).map intC) g, .row 1 (V.map intC) gw] = some ((.v (.bool (r))), [.row 1 ((P ++ (S ++ Q)).map intC) g, .row 1 (V.map intC) gw]) := by
  have hlen : n = P.length + (S.length + Q.length) := by rw [hn]; simp
  obtain ⟨⟨y, e, σ⟩, k1, i, k2, k3, k4, k5, k6, k7, k8, k9⟩ := pins_scan g cl n V gw P S Q a b ha hbb hS.1 hn hb
  simp only at k1 k2 k3 k4 k5 k6 k7 k8
  subst k2; subst k4
  have w1 : IntKind.i64.wrap ((a : Int) + 1) = ((a + 1 : Nat) : Int) := w64_add1 (by omega)
  have w2 : IntKind.i64.wrap ((b : Int) - (a : Int)) = (S.length : Int) := w64_sub hbb (by omega)
  have c2 : (S.length : Int) < 50 := by omega
  have key : ∃ y, itB (exec (evL T) itL none c_slices_partialInsertionSortOrdered_int_L1) (Ev.settle [0, 1, 2, 7, 8] true 2) ⟨[(0, .sl 0 g 0 n cl), (1, (.v (.int .i64 (a)))), (2, (.v (.int .i64 (b)))), (7, (.v (.int .i64 ((a + 1 : Nat))))), (8, (.v (.int .i64 (0))))], []⟩ [.row 1 ((P ++ (S ++ Q)).map intC) g, .row 1 (V.map intC) gw] = some y ∧
      ∃ r : Bool, (r = true → LeI S) ∧ y.1 = .ret ∧ y.2.1.marks = [] ∧ y.2.2 = [.row 1 ((P ++ (S ++ Q)).map intC) g, .row 1 (V.map intC) gw] ∧ Ev.look y.2.1.vars 6 = some (.v (.bool (r))) := by
    by_cases hib : i = b
    · subst hib
      refine ⟨_, itB_stop (by simp only [c_slices_partialInsertionSortOrdered_int_L1, k1, k3, k7, k8, ints_lo, Go.Ev.exec, Go.Ev.evOpers, Go.Ev.evOper, Go.Ev.item_op, Go.Ev.evOp, Go.Ev.Opnd.ev, Go.Ev.Env.get, Go.Ev.Env.set, Go.Ev.look, Go.Ev.bin_eql, Go.Ev.bin_lss, Go.Ev.settle, Go.Ev.keep, Go.Ev.varsLo, Go.Ev.marksLo, Go.Ev.storeLo, Go.Ev.SObj.lo, Go.Ev.lo_v, Go.Ev.lo_sl, ↓Go.Ev.obind, ↓Go.Ev.itL_itB, Go.Ev.it1, ↓reduceIte, List.length_cons, List.length_nil, List.take_succ_cons, List.take_nil, Nat.reduceAdd, Nat.reduceEqDiff, Nat.reduceLT, Int.reduceLT, reduceCtorEq, decide_true, Bool.and_self, and_self, Nat.zero_add, eq_self]; rfl), true, fun _ => k9 rfl, rfl, rfl, rfl, ?_⟩
      simp only [Go.Ev.look, ↓reduceIte, eq_self]
    · have c1 : ¬ (i : Int) = (b : Int) := by omega
      refine ⟨_, itB_stop (by simp only [c_slices_partialInsertionSortOrdered_int_L1, k1, k3, k6, k7, k8, c1, w2, c2, ints_lo, Go.Ev.exec, Go.Ev.evOpers, Go.Ev.evOper, Go.Ev.item_op, Go.Ev.evOp, Go.Ev.Opnd.ev, Go.Ev.Env.get, Go.Ev.Env.set, Go.Ev.look, Go.Ev.bin_sub, Go.Ev.bin_eql, Go.Ev.bin_lss, Go.Ev.settle, Go.Ev.keep, Go.Ev.varsLo, Go.Ev.marksLo, Go.Ev.storeLo, Go.Ev.SObj.lo, Go.Ev.lo_v, Go.Ev.lo_sl, ↓Go.Ev.obind, ↓Go.Ev.itL_itB, Go.Ev.it1, ↓reduceIte, List.length_cons, List.length_nil, List.take_succ_cons, List.take_nil, Nat.reduceAdd, Nat.reduceEqDiff, Nat.reduceLT, Int.reduceLT, reduceCtorEq, decide_true, decide_false, Bool.and_self, Bool.false_eq_true, and_self, Nat.zero_add, eq_self]; rfl), false, fun h => (by cases h), rfl, rfl, rfl, ?_⟩
      simp only [Go.Ev.look, ↓reduceIte, eq_self]
  obtain ⟨⟨y', e', σ'⟩, l1, r, l2, l3, l4, l5, l6⟩ := key
  simp only at l1 l3 l4 l5 l6
  subst l3; subst l5
  refine ⟨r, l2, ?_⟩
  rw [evL_code ext_slices_partialInsertionSortOrdered_int code_slices_partialInsertionSortOrdered_int]
  simp only [c_slices_partialInsertionSortOrdered_int, w1, l1, l4, l6, ints_lo, Go.Ev.runFunc, Go.Ev.exec, Go.Ev.evOpers, Go.Ev.evOper, Go.Ev.item_op, Go.Ev.evOp, Go.Ev.Opnd.ev, Go.Ev.Env.get, Go.Ev.Env.set, Go.Ev.look, Go.Ev.argVars, Go.Ev.bin_add, Go.Ev.resVals, Go.Ev.resVal, Go.Ev.resOf, Go.Ev.kill, Go.Ev.leave, Go.Ev.settle, Go.Ev.keep, Go.Ev.varsLo, Go.Ev.marksLo, Go.Ev.storeLo, Go.Ev.SObj.lo, Go.Ev.lo_v, Go.Ev.lo_sl, ↓Go.Ev.obind, ↓Go.Ev.itL_itB, ↓reduceIte, List.length_cons, List.length_nil, List.take_succ_cons, List.take_nil, Nat.reduceAdd, Nat.reduceEqDiff, Nat.reduceLT, reduceCtorEq, decide_true, Bool.and_self, and_self, Nat.zero_add, eq_self]
end
end Go.Proofs.Ytbkabnhkclbepaa.K

namespace Go.Proofs.Ytbkabnhkclbepaa.K
open Go.Ev
set_option linter.unusedSimpArgs false
set_option linter.unusedVariables false
set_option maxRecDepth 10000
def xorV (a b : Int) : Int := IntKind.u64.wrap (((BitVec.ofInt 64 a ^^^ BitVec.ofInt 64 b).toNat : Nat) : Int)
def andV (a b : Int) : Int := IntKind.u64.wrap (((BitVec.ofInt 64 a &&& BitVec.ofInt 64 b).toNat : Nat) : Int)
def shlV (a b : Int) : Int := IntKind.u64.wrap (a * 2 ^ (min b.toNat 64))
def shrV (a b : Int) : Int := a.fdiv (2 ^ (min b.toNat 64))
theorem bin_xor (a b : Int) : evBin .xor (.v (.int .u64 (a))) (.v (.int .u64 (b))) = some (.v (.int .u64 (xorV a b))) := rfl
theorem bin_and (a b : Int) : evBin .and (.v (.int .u64 (a))) (.v (.int .u64 (b))) = some (.v (.int .u64 (andV a b))) := rfl
theorem bin_shl (a b : Int) (h : ¬ b < 0) : evBin .shl (.v (.int .u64 (a))) (.v (.int .u64 (b))) = some (.v (.int .u64 (shlV a b))) := by
  show (if b < 0 then none else _) = _
  rw [if_neg h]; rfl
theorem bin_shr (a b : Int) (h : ¬ b < 0) : evBin .shr (.v (.int .u64 (a))) (.v (.int .u64 (b))) = some (.v (.int .u64 (shrV a b))) := by
  show (if b < 0 then none else _) = _
  rw [if_neg h]; rfl
theorem u64_nat {n : Nat} (h : n < 2 ^ 63) : IntKind.u64.wrap (n : Int) = (n : Int) := by
  have h3 : IntKind.u64.bits = 64 := rfl
  have h4 : IntKind.u64.signed = false := rfl
  simp only [IntKind.wrap, h3, h4, Bool.false_and, Bool.false_eq_true, if_false]
  omega
theorem and_le (a : Int) (m : Nat) (h : m < 2 ^ 63) : ∃ k : Nat, andV a (m : Int) = (k : Int) ∧ k ≤ m := by
  refine ⟨(BitVec.ofInt 64 a &&& BitVec.ofInt 64 (m : Int)).toNat, ?_, ?_⟩
  · have : (BitVec.ofInt 64 a &&& BitVec.ofInt 64 (m : Int)).toNat ≤ m := by
      rw [BitVec.toNat_and]
      refine Nat.le_trans Nat.and_le_right ?_
      rw [BitVec.ofInt_natCast, BitVec.toNat_ofNat]
      exact Nat.mod_le _ _
    exact u64_nat (by omega)
  · rw [BitVec.toNat_and]
    refine Nat.le_trans Nat.and_le_right ?_
    rw [BitVec.ofInt_natCast, BitVec.toNat_ofNat]
    exact Nat.mod_le _ _
theorem pow2_ev : ∀ l : Nat, 13 ≤ l → l ≤ 16 → ∃ m : Nat, callZ (evL T) n_slices_nextPowerOfTwo [(.v (.int .i64 (l)))] = some (.v (.int .u64 ((m + 1 : Nat)))) ∧ m + 1 ≤ 2 * l ∧ m < 2 ^ 62 := by
  intro l h1 h2
  have : l = 13 ∨ l = 14 ∨ l = 15 ∨ l = 16 := by omega
  rcases this with rfl | rfl | rfl | rfl
  · exact ⟨15, callZ_of_F 8 (by kernel_rfl), by omega, by omega⟩
  · exact ⟨15, callZ_of_F 8 (by kernel_rfl), by omega, by omega⟩
  · exact ⟨15, callZ_of_F 8 (by kernel_rfl), by omega, by omega⟩
  · exact ⟨31, callZ_of_F 8 (by kernel_rfl), by omega, by omega⟩
theorem len_ev : ∀ l : Nat, l ≤ 16 → ∃ m : Nat, callZ (evL T) n_math_bits_Len [(.v (.int .u64 (l)))] = some (.v (.int .i64 (m))) ∧ l ≤ m + 12 ∧ m < 100 := by
  intro l h
  match l, h with
  | 0, _ => exact ⟨0, callZ_of_F 8 (by kernel_rfl), by omega, by omega⟩
  | 1, _ => exact ⟨1, callZ_of_F 8 (by kernel_rfl), by omega, by omega⟩
  | 2, _ => exact ⟨2, callZ_of_F 8 (by kernel_rfl), by omega, by omega⟩
  | 3, _ => exact ⟨2, callZ_of_F 8 (by kernel_rfl), by omega, by omega⟩
  | 4, _ => exact ⟨3, callZ_of_F 8 (by kernel_rfl), by omega, by omega⟩
  | 5, _ => exact ⟨3, callZ_of_F 8 (by kernel_rfl), by omega, by omega⟩
  | 6, _ => exact ⟨3, callZ_of_F 8 (by kernel_rfl), by omega, by omega⟩
  | 7, _ => exact ⟨3, callZ_of_F 8 (by kernel_rfl), by omega, by omega⟩
  | 8, _ => exact ⟨4, callZ_of_F 8 (by kernel_rfl), by omega, by omega⟩
  | 9, _ => exact ⟨4, callZ_of_F 8 (by kernel_rfl), by omega, by omega⟩
  | 10, _ => exact ⟨4, callZ_of_F 8 (by kernel_rfl), by omega, by omega⟩
  | 11, _ => exact ⟨4, callZ_of_F 8 (by kernel_rfl), by omega, by omega⟩
  | 12, _ => exact ⟨4, callZ_of_F 8 (by kernel_rfl), by omega, by omega⟩
  | 13, _ => exact ⟨4, callZ_of_F 8 (by kernel_rfl), by omega, by omega⟩
  | 14, _ => exact ⟨4, callZ_of_F 8 (by kernel_rfl), by omega, by omega⟩
  | 15, _ => exact ⟨4, callZ_of_F 8 (by kernel_rfl), by omega, by omega⟩
  | 16, _ => exact ⟨5, callZ_of_F 8 (by kernel_rfl), by omega, by omega⟩
  | l + 17, h => omega
section
variable (g : Nat) (cl : Bool) (n : Nat) (V : List Int) (gw : Nat)
theorem xor_ev (D : List Int) (x : Int) : ∃ v : Int, (evL T).call n_slices_xorshift_Next [.ptr 2 0 0 0] [.row 1 ((D).map intC) g, .row 1 (V.map intC) gw, .row 1 [[(.v (.int .u64 (x)))]] 0] = some ((.v (.int .u64 (v))), [.row 1 ((D).map intC) g, .row 1 (V.map intC) gw, .row 1 [[(.v (.int .u64 (v)))]] 0]) := by
  refine ⟨xorV (xorV (xorV x (shlV x 13)) (shrV (xorV x (shlV x 13)) 7)) (shlV (xorV (xorV x (shlV x 13)) (shrV (xorV x (shlV x 13)) 7)) 17), ?_⟩
  rw [evL_code ext_slices_xorshift_Next code_slices_xorshift_Next]
  have s1 := fun a => bin_shl a 13 (by omega)
  have s2 := fun a => bin_shr a 7 (by omega)
  have s3 := fun a => bin_shl a 17 (by omega)
  simp only [c_slices_xorshift_Next, bin_xor, s1, s2, s3, ints_lo, Go.Ev.runFunc, Go.Ev.exec, Go.Ev.evOpers, Go.Ev.evOper, Go.Ev.item_op, Go.Ev.evOp, Go.Ev.Opnd.ev, Go.Ev.Env.get, Go.Ev.Env.set, Go.Ev.look, Go.Ev.argVars, Go.Ev.cellsAt, Go.Ev.loadC, Go.Ev.AV.cells, Go.Ev.AV.uc, Go.Ev.plains, Go.Ev.AV.plain, Go.Ev.resVals, Go.Ev.resVal, Go.Ev.resOf, Go.Ev.kill, Go.Ev.leave, Go.Ev.storeLo, Go.Ev.SObj.lo, Go.Ev.lo_v, Go.Ev.los_nil, Go.Ev.los_cons, Go.Ev.loss_nil, Go.Ev.loss_cons, ↓Go.Ev.obind, ↓reduceIte, List.length_cons, List.length_nil, List.getElem?_cons_zero, List.getElem?_cons_succ, List.take_succ_cons, List.take_zero, List.take_nil, List.drop_succ_cons, List.drop_zero, List.drop_nil, List.nil_append, List.append_nil, List.set_cons_zero, List.set_cons_succ, List.head?_cons, Nat.reduceAdd, Nat.reduceEqDiff, reduceCtorEq, Bool.and_self, Bool.false_eq_true, and_self, Nat.zero_add, Nat.le_refl, eq_self]
theorem brk_ev (P S Q : List Int) (a b : Nat) (ha : a = P.length) (hbb : b = a + S.length) (hS : 13 ≤ S.length ∧ S.length ≤ 16) (hn : n = (P ++ (S ++ Q)).length) (hb : n < 2 ^ 61) :
    ∃ S' : List Int, S'.Perm S ∧ (evL T).call n_slices_breakPatternsOrdered_int [.sl 0 g 0 n cl, (.v (.int .i64 (a))), (.v (.int .i64 (b)))] [.row 1 ((P ++ (S ++ Q)).map intC) g, .row 1 (V.map intC) gw] = some (.tup [], [.row 1 ((P ++ (S' ++ Q)).map intC) g, .row 1 (V.map intC) gw]) := by
  have hlen : n = P.length + (S.length + Q.length) := by rw [hn]; simp
  obtain ⟨l, hl⟩ : ∃ l, l = S.length := ⟨_, rfl⟩
  obtain ⟨q, hq⟩ : ∃ q, q = l / 4 := ⟨_, rfl⟩
  obtain ⟨m, hm1, hm2, hm3⟩ := pow2_ev l (by omega) (by omega)
  have w0 : IntKind.i64.wrap ((b : Int) - (a : Int)) = (l : Int) := w64_sub (by omega) (by omega)
  have w1 : IntKind.i64.wrap ((l : Int).tdiv 4) = (q : Int) := by
    rw [show (l : Int).tdiv 4 = (q : Int) by rw [Int.tdiv_eq_ediv_of_nonneg (by omega)]; omega]; exact w64_small (by omega) (by omega)
  have w3 : IntKind.i64.wrap ((q : Int) * 2) = ((2 * q : Nat) : Int) := by rw [w64_small (by omega) (by omega)]; omega
  have w6 : IntKind.i64.wrap ((a : Int) + ((2 * q : Nat) : Int)) = ((a + 2 * q : Nat) : Int) := w64_add (by omega)
  have w7 : IntKind.i64.wrap (((a + 2 * q : Nat) : Int) + 1) = ((a + 2 * q + 1 : Nat) : Int) := w64_add1 (by omega)
  obtain ⟨i0, hi0⟩ : ∃ i0, a + 2 * q = i0 + 1 := ⟨a + 2 * q - 1, by omega⟩
  have w8 : IntKind.i64.wrap (((a + 2 * q : Nat) : Int) - 1) = (i0 : Int) := w64_sub1 hi0 (by omega)
  have u1 : IntKind.u64.wrap (l : Int) = (l : Int) := u64_nat (by omega)
  have u2 : IntKind.u64.wrap (((m + 1 : Nat) : Int) - 1) = (m : Int) := by
    rw [show ((m + 1 : Nat) : Int) - 1 = (m : Int) by omega]; exact u64_nat (by omega)
  have key := itB_while (f := exec (evL T) itL none c_slices_breakPatternsOrdered_int_L1) (s := Ev.settle [0, 1, 6, 7, 8, 9] true 3) (τ := List Int × Nat × Int)
    (fun s => ⟨[(0, .sl 0 g 0 n cl), (1, (.v (.int .i64 (a)))), (6, (.v (.int .i64 (l)))), (7, .ptr 2 0 0 0), (8, (.v (.int .u64 ((m + 1 : Nat))))), (9, (.v (.int .i64 (s.2.1))))], []⟩) (fun s => [.row 1 ((s.1).map intC) g, .row 1 (V.map intC) gw, .row 1 [[(.v (.int .u64 (s.2.2)))]] 0]) (fun s => a + 2 * q + 2 - s.2.1)
    (fun s => (∃ S', s.1 = P ++ (S' ++ Q) ∧ S'.Perm S) ∧ a ≤ s.2.1 ∧ s.2.1 ≤ a + 2 * q + 2)
    (fun y => y.1 = .exit 0 ∧ y.2.1.marks = [] ∧ ∃ (S' : List Int) (x : Int), S'.Perm S ∧ y.2.2 = [.row 1 ((P ++ (S' ++ Q)).map intC) g, .row 1 (V.map intC) gw, .row 1 [[(.v (.int .u64 (x)))]] 0]) ?_ (P ++ (S ++ Q), i0, (l : Int)) ⟨⟨S, rfl, .refl _⟩, by simp only; omega, by simp only; omega⟩
  · obtain ⟨⟨y, e, σ⟩, k1, k2, k3, S', x, k4, k5⟩ := key
    simp only at k1 k2 k3 k5
    subst k2; subst k5
    refine ⟨S', k4, ?_⟩
    have c1 : (l : Int) ≥ 8 := by omega
    rw [evL_code ext_slices_breakPatternsOrdered_int code_slices_breakPatternsOrdered_int]
    simp only [c_slices_breakPatternsOrdered_int, w0, w1, w3, w6, w8, u1, c1, hm1, k1, k3, ints_lo, Go.Ev.runFunc, Go.Ev.exec, Go.Ev.evOpers, Go.Ev.evOper, Go.Ev.item_op, Go.Ev.item_P, Go.Ev.evOp, Go.Ev.evs, Go.Ev.Opnd.ev, Go.Ev.Env.get, Go.Ev.Env.set, Go.Ev.look, Go.Ev.argVars, Go.Ev.AV.cells, Go.Ev.AV.uc, Go.Ev.plains, Go.Ev.AV.plain, Go.Ev.bin_add, Go.Ev.bin_sub, Go.Ev.bin_mul, Go.Ev.bin_quo, Go.Ev.bin_geq, Go.Ev.resVals, Go.Ev.resOf, Go.Ev.kill, Go.Ev.leave, Go.Ev.settle, Go.Ev.keep, Go.Ev.varsLo, Go.Ev.marksLo, Go.Ev.storeLo, Go.Ev.SObj.lo, Go.Ev.lo_v, Go.Ev.lo_tup, Go.Ev.lo_sl, Go.Ev.lo_ptr, Go.Ev.los_nil, Go.Ev.los_cons, Go.Ev.loss_nil, Go.Ev.loss_cons, ↓Go.Ev.obind, ↓Go.Ev.itL_itB, ↓reduceIte, List.length_cons, List.length_nil, List.getElem?_cons_zero, List.getElem?_cons_succ, List.take_succ_cons, List.take_zero, List.take_nil, List.drop_succ_cons, List.drop_nil, List.cons_append, List.nil_append, List.append_nil, List.set_cons_zero, List.set_cons_succ, Nat.reduceAdd, Nat.reduceEqDiff, Nat.reduceLT, Int.reduceEq, reduceCtorEq, decide_true, Bool.and_self, and_self, ne_eq, not_false_eq_true, List.cons_ne_nil, Nat.zero_add, Nat.lt_add_one, Nat.le_refl, eq_self]
  · rintro ⟨D, i, s⟩ ⟨⟨S', hD, hp⟩, hi, hi2⟩
    simp only at hD hi hi2 ⊢
    have hl2 := hp.length_eq
    have hDl : D.length = n := by rw [hD, hlen]; simp [hl2]
    by_cases hij : i ≤ a + 2 * q + 1
    case neg =>
      have c1 : ¬ (i : Int) ≤ ((a + 2 * q + 1 : Nat) : Int) := by omega
      right
      simp only [c_slices_breakPatternsOrdered_int_L1, w1, w3, w6, w7, c1, Go.Ev.exec, Go.Ev.evOpers, Go.Ev.evOper, Go.Ev.item_op, Go.Ev.evOp, Go.Ev.Opnd.ev, Go.Ev.Env.get, Go.Ev.Env.set, Go.Ev.look, Go.Ev.bin_add, Go.Ev.bin_mul, Go.Ev.bin_quo, Go.Ev.bin_leq, ↓Go.Ev.obind, Go.Ev.it1, ↓reduceIte, Nat.reduceEqDiff, Int.reduceEq, reduceCtorEq, decide_false, Bool.false_eq_true, eq_self]
      exact ⟨_, rfl, rfl, rfl, S', s, hp, by rw [hD]⟩
    have c1 : (i : Int) ≤ ((a + 2 * q + 1 : Nat) : Int) := by omega
    obtain ⟨v, hv⟩ := xor_ev g V gw D s
    obtain ⟨k, hk1, hk2⟩ := and_le v m (by omega)
    have u3 : IntKind.i64.wrap (k : Int) = (k : Int) := w64_small (by omega) (by omega)
    have w9 : IntKind.i64.wrap ((i : Int) + 1) = ((i + 1 : Nat) : Int) := w64_add1 (by omega)
    have fin : ∀ o : Nat, o < l → ∃ D1 : List Int, (∃ z, ((D.map intC).set i [(.v (.int .i64 ((D[a + o]?).getD 0)))])[a + o]? = some [(.v (.int .i64 (z)))]) ∧ (((D.map intC).set i [(.v (.int .i64 ((D[a + o]?).getD 0)))]).set (a + o) [(.v (.int .i64 ((D[i]?).getD 0)))]) = D1.map intC ∧ (∃ S', D1 = P ++ (S' ++ Q) ∧ S'.Perm S) ∧ D[i]? = some ((D[i]?).getD 0) ∧ D[a + o]? = some ((D[a + o]?).getD 0) := by
      intro o ho
      obtain ⟨x, hx⟩ : ∃ x, D[i]? = some x := ⟨_, List.getElem?_eq_getElem (by omega)⟩
      obtain ⟨y, hy⟩ : ∃ y, D[a + o]? = some y := ⟨_, List.getElem?_eq_getElem (by omega)⟩
      obtain ⟨S2, e1, e2⟩ := seg_swap hD ha hi (by omega) (by omega : a ≤ a + o) (by omega) hx hy
      have gx : (D[i]?).getD 0 = x := by rw [hx]; rfl
      have gy : (D[a + o]?).getD 0 = y := by rw [hy]; rfl
      rw [gx, gy]
      exact ⟨(D.set i y).set (a + o) x, swap_get hx hy, by rw [List.map_set, List.map_set]; rfl, ⟨S2, e1, e2.trans hp⟩, hx, hy⟩
    have r1 : i < n := by omega
    left
    by_cases hkl : k < l
    · have c2 : ¬ (k : Int) ≥ (l : Int) := by omega
      obtain ⟨D1, ⟨z, hz⟩, hr1, hS1, hx, hy⟩ := fin k hkl
      have w10 : IntKind.i64.wrap ((a : Int) + (k : Int)) = ((a + k : Nat) : Int) := w64_add (by omega)
      have r2 : a + k < n := by omega
      refine ⟨(D1, i + 1, v), ?_, ⟨hS1, by simp only; omega, by simp only; omega⟩, by simp only; omega⟩
      generalize (D[i]?).getD 0 = x at hz hr1 hx hy
      generalize (D[a + k]?).getD 0 = y at hz hr1 hx hy
      simp only [c_slices_breakPatternsOrdered_int_L1, Int.natCast_nonneg, Int.toNat_natCast, List.getElem?_map, Option.map_some, w1, w3, w6, w7, c1, hv, u2, bin_and, hk1, u3, c2, w10, r1, r2, hx, hy, hz, hr1, w9, intC, ints_lo, Go.Ev.exec, Go.Ev.evOpers, Go.Ev.evOper, Go.Ev.item_op, Go.Ev.item_I, Go.Ev.evOp, Go.Ev.evs, Go.Ev.Opnd.ev, Go.Ev.Env.get, Go.Ev.Env.set, Go.Ev.look, Go.Ev.cellsAt, Go.Ev.loadC, Go.Ev.AV.cells, Go.Ev.AV.uc, Go.Ev.plains, Go.Ev.AV.plain, Go.Ev.bin_add, Go.Ev.bin_sub, Go.Ev.bin_mul, Go.Ev.bin_quo, Go.Ev.bin_leq, Go.Ev.bin_geq, Go.Ev.settle, Go.Ev.keep, Go.Ev.varsLo, Go.Ev.marksLo, Go.Ev.storeLo, Go.Ev.SObj.lo, Go.Ev.lo_v, Go.Ev.lo_sl, Go.Ev.lo_ptr, Go.Ev.los_nil, Go.Ev.los_cons, Go.Ev.loss_nil, Go.Ev.loss_cons, ↓Go.Ev.obind, Go.Ev.it1, ↓reduceIte, List.length_cons, List.length_nil, List.getElem?_cons_zero, List.take_succ_cons, List.take_zero, List.take_nil, List.drop_succ_cons, List.drop_zero, List.drop_nil, List.nil_append, List.append_nil, List.set_cons_zero, List.head?_cons, Nat.reduceEqDiff, Nat.reduceLT, Int.reduceEq, reduceCtorEq, decide_true, decide_false, Bool.and_self, Bool.false_eq_true, and_self, Nat.zero_add, Nat.lt_add_one, Nat.le_refl, eq_self]
    · have c2 : (k : Int) ≥ (l : Int) := by omega
      obtain ⟨o, ho⟩ : ∃ o, k = l + o := ⟨k - l, by omega⟩
      have w11 : IntKind.i64.wrap ((k : Int) - (l : Int)) = (o : Int) := w64_sub ho (by omega)
      obtain ⟨D1, ⟨z, hz⟩, hr1, hS1, hx, hy⟩ := fin o (by omega)
      have w10 : IntKind.i64.wrap ((a : Int) + (o : Int)) = ((a + o : Nat) : Int) := w64_add (by omega)
      have r2 : a + o < n := by omega
      refine ⟨(D1, i + 1, v), ?_, ⟨hS1, by simp only; omega, by simp only; omega⟩, by simp only; omega⟩
      generalize (D[i]?).getD 0 = x at hz hr1 hx hy
      generalize (D[a + o]?).getD 0 = y at hz hr1 hx hy
      simp only [c_slices_breakPatternsOrdered_int_L1, Int.natCast_nonneg, Int.toNat_natCast, List.getElem?_map, Option.map_some, w1, w3, w6, w7, c1, hv, u2, bin_and, hk1, u3, c2, w11, w10, r1, r2, hx, hy, hz, hr1, w9, intC, ints_lo, Go.Ev.exec, Go.Ev.evOpers, Go.Ev.evOper, Go.Ev.item_op, Go.Ev.item_I, Go.Ev.evOp, Go.Ev.evs, Go.Ev.Opnd.ev, Go.Ev.Env.get, Go.Ev.Env.set, Go.Ev.look, Go.Ev.cellsAt, Go.Ev.loadC, Go.Ev.AV.cells, Go.Ev.AV.uc, Go.Ev.plains, Go.Ev.AV.plain, Go.Ev.bin_add, Go.Ev.bin_sub, Go.Ev.bin_mul, Go.Ev.bin_quo, Go.Ev.bin_leq, Go.Ev.bin_geq, Go.Ev.settle, Go.Ev.keep, Go.Ev.varsLo, Go.Ev.marksLo, Go.Ev.storeLo, Go.Ev.SObj.lo, Go.Ev.lo_v, Go.Ev.lo_sl, Go.Ev.lo_ptr, Go.Ev.los_nil, Go.Ev.los_cons, Go.Ev.loss_nil, Go.Ev.loss_cons, ↓Go.Ev.obind, Go.Ev.it1, ↓reduceIte, List.length_cons, List.length_nil, List.getElem?_cons_zero, List.take_succ_cons, List.take_zero, List.take_nil, List.drop_succ_cons, List.drop_zero, List.drop_nil, List.nil_append, List.append_nil, List.set_cons_zero, List.head?_cons, Nat.reduceEqDiff, Nat.reduceLT, Int.reduceEq, reduceCtorEq, decide_true, Bool.and_self, Bool.false_eq_true, and_self, Nat.zero_add, Nat.lt_add_one, Nat.le_refl, eq_self]
end
end Go.Proofs.Ytbkabnhkclbepaa.K

namespace Go.Proofs.Ytbkabnhkclbepaa.K
open Go.Ev
set_option linter.unusedSimpArgs false
set_option linter.unusedVariables false
set_option maxRecDepth 10000
/-! ### What a turn of the quick sort keeps (no program here) -/
structure G (P S0 A S1 B : List Int) : Prop where
  perm : (A ++ (S1 ++ B)).Perm S0
  sA : LeI A
  sB : LeI B
  aS : ∀ x ∈ A, ∀ y ∈ S1, x ≤ y
  aB : ∀ x ∈ A, ∀ y ∈ B, x ≤ y
  sb : ∀ x ∈ S1, ∀ y ∈ B, x ≤ y
  pre : ∀ u, (P ++ A)[(P ++ A).length - 1]? = some u → ∀ x ∈ S1, u ≤ x
section
variable {P S0 A S1 B L R : List Int} {v : Int}
theorem G.reorder (h : G P S0 A S1 B) {S2 : List Int} (p : S2.Perm S1) : G P S0 A S2 B :=
  ⟨(List.Perm.append_left A (p.append_right B)).trans h.perm, h.sA, h.sB, fun x hx y hy => h.aS x hx y (p.mem_iff.1 hy), h.aB, fun x hx => h.sb x (p.mem_iff.1 hx), fun u hu x hx => h.pre u hu x (p.mem_iff.1 hx)⟩
theorem last_snoc {X Y : List Int} {u : Int} (hY : Y ≠ []) (h : (X ++ Y)[(X ++ Y).length - 1]? = some u) : u ∈ Y := by
  have hl : 0 < Y.length := List.length_pos_iff.2 hY
  rw [List.length_append, List.getElem?_append_right (by omega)] at h
  exact List.mem_of_getElem? h
theorem G.eq (h : G P S0 A S1 B) (p : (L ++ R).Perm S1) (hL : ∀ x ∈ L, x ≤ v) (hR : ∀ x ∈ R, v < x) (hL0 : L ≠ []) {u : Int} (hu : (P ++ A)[(P ++ A).length - 1]? = some u) (huv : v ≤ u) : G P S0 (A ++ L) R B := by
  have mL : ∀ x ∈ L, x ∈ S1 := fun x hx => p.mem_iff.1 (List.mem_append_left _ hx)
  have mR : ∀ x ∈ R, x ∈ S1 := fun x hx => p.mem_iff.1 (List.mem_append_right _ hx)
  have cL : ∀ x ∈ L, x = u := fun x hx => by have := hL x hx; have := h.pre u hu x (mL x hx); omega
  refine ⟨?_, sorted_parts h.sA ?_ (fun x hx y hy => h.aS x hx y (mL y hy)), h.sB, ?_, ?_, fun x hx => h.sb x (mR x hx), ?_⟩
  · refine List.Perm.trans ?_ h.perm
    rw [List.append_assoc]
    refine List.Perm.append_left A ?_
    rw [← List.append_assoc]; exact p.append_right B
  · unfold LeI
    rw [List.pairwise_iff_getElem]
    intro i j hi hj _
    have h1 := cL L[i] (List.getElem_mem hi)
    have h2 := cL L[j] (List.getElem_mem hj)
    omega
  · intro x hx y hy
    rcases List.mem_append.1 hx with hx | hx
    · exact h.aS x hx y (mR y hy)
    · have := hL x hx; have := hR y hy; omega
  · intro x hx y hy
    rcases List.mem_append.1 hx with hx | hx
    · exact h.aB x hx y hy
    · exact h.sb x (mL x hx) y hy
  · intro w hw x hx
    rw [← List.append_assoc] at hw
    have := hL w (last_snoc hL0 hw); have := hR x hx; omega
theorem G.left (h : G P S0 A S1 B) (p : (L ++ v :: R).Perm S1) (hL : ∀ x ∈ L, x < v) (hR : ∀ x ∈ R, ¬ x < v) {L' : List Int} (pL : L'.Perm L) (sL : LeI L') : G P S0 (A ++ (L' ++ [v])) R B := by
  have mL : ∀ x ∈ L', x ∈ S1 := fun x hx => p.mem_iff.1 (List.mem_append_left _ (pL.mem_iff.1 hx))
  have mR : ∀ x ∈ R, x ∈ S1 := fun x hx => p.mem_iff.1 (List.mem_append_right _ (List.mem_cons_of_mem _ hx))
  have mv : v ∈ S1 := p.mem_iff.1 (by simp)
  have mLv : ∀ x ∈ L' ++ [v], x ∈ S1 ∧ x ≤ v := fun x hx => by
    rcases List.mem_append.1 hx with hx | hx
    · exact ⟨mL x hx, by have := hL x (pL.mem_iff.1 hx); omega⟩
    · rw [List.mem_singleton] at hx; subst hx; exact ⟨mv, Int.le_refl _⟩
  refine ⟨?_, sorted_parts h.sA (sorted_parts sL (List.pairwise_singleton _ _) fun x hx y hy => ?_) (fun x hx y hy => h.aS x hx y (mLv y hy).1), h.sB, ?_, ?_, fun x hx => h.sb x (mR x hx), ?_⟩
  · refine List.Perm.trans ?_ h.perm
    rw [List.append_assoc]
    refine List.Perm.append_left A ?_
    rw [← List.append_assoc]
    refine List.Perm.append_right B ?_
    refine List.Perm.trans ?_ p
    rw [List.append_assoc]
    exact pL.append_right ([v] ++ R)
  · rw [List.mem_singleton] at hy; subst hy; have := hL x (pL.mem_iff.1 hx); omega
  · intro x hx y hy
    rcases List.mem_append.1 hx with hx | hx
    · exact h.aS x hx y (mR y hy)
    · have := (mLv x hx).2; have := hR y hy; omega
  · intro x hx y hy
    rcases List.mem_append.1 hx with hx | hx
    · exact h.aB x hx y hy
    · exact h.sb x (mLv x hx).1 y hy
  · intro w hw x hx
    rw [← List.append_assoc, ← List.append_assoc] at hw
    have := last_snoc (Y := [v]) (by simp) hw
    rw [List.mem_singleton] at this; subst this
    have := hR x hx; omega
theorem G.right (h : G P S0 A S1 B) (p : (L ++ v :: R).Perm S1) (hL : ∀ x ∈ L, x < v) (hR : ∀ x ∈ R, ¬ x < v) {R' : List Int} (pR : R'.Perm R) (sR : LeI R') : G P S0 A L (v :: R' ++ B) := by
  have mL : ∀ x ∈ L, x ∈ S1 := fun x hx => p.mem_iff.1 (List.mem_append_left _ hx)
  have mR : ∀ x ∈ R', x ∈ S1 := fun x hx => p.mem_iff.1 (List.mem_append_right _ (List.mem_cons_of_mem _ (pR.mem_iff.1 hx)))
  have mv : v ∈ S1 := p.mem_iff.1 (by simp)
  have mvR : ∀ x ∈ v :: R', x ∈ S1 ∧ v ≤ x := fun x hx => by
    rcases List.mem_cons.1 hx with rfl | hx
    · exact ⟨mv, Int.le_refl _⟩
    · exact ⟨mR x hx, by have := hR x (pR.mem_iff.1 hx); omega⟩
  have svR : LeI (v :: R') := List.pairwise_cons.2 ⟨fun y hy => (mvR y (List.mem_cons_of_mem _ hy)).2, sR⟩
  refine ⟨?_, h.sA, sorted_parts svR h.sB (fun x hx y hy => h.sb x (mvR x hx).1 y hy), fun x hx y hy => h.aS x hx y (mL y hy), ?_, ?_, fun u hu x hx => h.pre u hu x (mL x hx)⟩
  · refine List.Perm.trans ?_ h.perm
    refine List.Perm.append_left A ?_
    rw [← List.append_assoc]
    refine List.Perm.append_right B (List.Perm.trans ?_ p)
    exact List.Perm.append_left L (List.Perm.cons v pR)
  · intro x hx y hy
    rcases List.mem_append.1 hy with hy | hy
    · exact h.aS x hx y (mvR y hy).1
    · exact h.aB x hx y hy
  · intro x hx y hy
    rcases List.mem_append.1 hy with hy | hy
    · have := (mvR y hy).2; have := hL x hx; omega
    · exact h.sb x (mL x hx) y hy
theorem G.done (h : G P S0 A S1 B) {S2 : List Int} (p : S2.Perm S1) (s : LeI S2) : (A ++ (S2 ++ B)).Perm S0 ∧ LeI (A ++ (S2 ++ B)) := by
  have h2 := h.reorder p
  exact ⟨h2.perm, sorted_parts h2.sA (sorted_parts s h2.sB h2.sb) fun x hx y hy => by
    rcases List.mem_append.1 hy with hy | hy
    · exact h2.aS x hx y hy
    · exact h2.aB x hx y hy⟩
end
/-! ### The turn, in three parts -/
def pdqB : CCode := match c_slices_pdqsortOrdered_int_L1 with | .block _ c => c | c => c
def pdqPre5 (c t : CCode) : CCode := match c with
  | .seq a0 (.seq a1 (.seq a2 (.seq a3 (.seq a4 _)))) => .seq a0 (.seq a1 (.seq a2 (.seq a3 (.seq a4 t))))
  | _ => t
def pdqPre2 (c t : CCode) : CCode := match c with
  | .seq a0 (.seq a1 _) => .seq a0 (.seq a1 t)
  | _ => t
def pdqT5 : CCode := match pdqB with
  | .seq _ (.seq _ (.seq _ (.seq _ (.seq _ t)))) => t
  | c => c
def pdqT : CCode := match pdqT5 with
  | .seq _ (.seq _ t) => t
  | c => c
theorem pdq_split : c_slices_pdqsortOrdered_int_L1 = .block 1 (pdqPre5 pdqB (pdqPre2 pdqT5 pdqT)) := rfl
section
variable (g : Nat) (cl : Bool) (n : Nat) (V : List Int) (gw : Nat)
/-- The contract, for pieces shorter than k. -/
def PdqAt (k : Nat) : Prop := ∀ (P S Q : List Int) (a b lim : Nat), S.length < k → S.length ≤ lim + 12 → S.length ≤ 16 → a = P.length → b = a + S.length → n = (P ++ (S ++ Q)).length → (∀ u, P[P.length - 1]? = some u → ∀ x ∈ S, u ≤ x) → lim < 1000 →
  ∃ S' : List Int, S'.Perm S ∧ LeI S' ∧ (evL T).call n_slices_pdqsortOrdered_int [.sl 0 g 0 n cl, (.v (.int .i64 (a))), (.v (.int .i64 (b))), (.v (.int .i64 (lim)))] [.row 1 ((P ++ (S ++ Q)).map intC) g, .row 1 (V.map intC) gw] = some (.tup [], [.row 1 ((P ++ (S' ++ Q)).map intC) g, .row 1 (V.map intC) gw])
theorem pdq_st1 (hb : n < 2 ^ 61) (P A S1 B Q : List Int) (a b lim : Nat) (wb wp : Bool) (ha : a = P.length + A.length) (hbb : b = a + S1.length) (hn : n = (P ++ (A ++ (S1 ++ (B ++ Q)))).length) (hS : S1.length ≤ 16) (hlim : S1.length ≤ lim + 12) (hl2 : lim < 1000) :
    (∃ (y : CExit × Env × Store) (S2 : List Int), (∀ t, exec (evL T) itL none (pdqPre5 pdqB t) ⟨[(0, (.sl 0 g 0 n cl)), (1, (.v (.int .i64 (a)))), (2, (.v (.int .i64 (b)))), (3, (.v (.int .i64 (lim)))), (8, (.v (.bool (wb)))), (9, (.v (.bool (wp))))], []⟩ [.row 1 ((P ++ (A ++ (S1 ++ (B ++ Q)))).map intC) g, .row 1 (V.map intC) gw] = some y) ∧ y.1 = .ret ∧ y.2.1.marks = [] ∧ S2.Perm S1 ∧ LeI S2 ∧ y.2.2 = [.row 1 ((P ++ (A ++ (S2 ++ (B ++ Q)))).map intC) g, .row 1 (V.map intC) gw]) ∨
    (∃ (e : Env) (S2 : List Int) (p lim' : Nat) (h : Int), (∀ t, exec (evL T) itL none (pdqPre5 pdqB t) ⟨[(0, (.sl 0 g 0 n cl)), (1, (.v (.int .i64 (a)))), (2, (.v (.int .i64 (b)))), (3, (.v (.int .i64 (lim)))), (8, (.v (.bool (wb)))), (9, (.v (.bool (wp))))], []⟩ [.row 1 ((P ++ (A ++ (S1 ++ (B ++ Q)))).map intC) g, .row 1 (V.map intC) gw] = exec (evL T) itL none t e [.row 1 ((P ++ (A ++ (S2 ++ (B ++ Q)))).map intC) g, .row 1 (V.map intC) gw]) ∧ e.marks = [] ∧ S2.Perm S1 ∧ 13 ≤ S1.length ∧ a ≤ p ∧ p < b ∧ S1.length ≤ lim' + 13 ∧ lim' < 1000 ∧
      Ev.look e.vars 0 = some (.sl 0 g 0 n cl) ∧ Ev.look e.vars 1 = some (.v (.int .i64 (a))) ∧ Ev.look e.vars 2 = some (.v (.int .i64 (b))) ∧ Ev.look e.vars 3 = some (.v (.int .i64 (lim'))) ∧ Ev.look e.vars 8 = some (.v (.bool (wb))) ∧ Ev.look e.vars 9 = some (.v (.bool (wp))) ∧ Ev.look e.vars 10 = some (.v (.int .i64 (S1.length))) ∧ Ev.look e.vars 11 = some (.v (.int .i64 (p))) ∧ Ev.look e.vars 12 = some (.v (.int .i64 (h)))) := by
  have hlen : n = P.length + (A.length + (S1.length + (B.length + Q.length))) := by rw [hn]; simp
  have w0 : IntKind.i64.wrap ((b : Int) - (a : Int)) = (S1.length : Int) := w64_sub hbb (by omega)
  by_cases hle : S1.length ≤ 12
  · have c1 : (S1.length : Int) ≤ 12 := by omega
    obtain ⟨S2, p1, q1, r1⟩ := insI_ev g cl n V gw (P ++ A) S1 (B ++ Q) (by simp; omega) hb a b (by simp; omega) hbb
    simp only [List.append_assoc] at r1
    refine .inl ⟨?_, S2, fun t => ?_, ?_, ?_, p1, q1, ?_⟩
    case refine_2 =>
      simp only [pdqB, pdqPre5, c_slices_pdqsortOrdered_int_L1, w0, c1, r1, Go.Ev.exec, Go.Ev.evOpers, Go.Ev.evOper, Go.Ev.item_op, Go.Ev.item_I, Go.Ev.evOp, Go.Ev.evs, Go.Ev.Opnd.ev, Go.Ev.Env.get, Go.Ev.Env.set, Go.Ev.look, Go.Ev.bin_sub, Go.Ev.bin_leq, ↓Go.Ev.obind, ↓reduceIte, Nat.reduceEqDiff, reduceCtorEq, decide_true, eq_self]
      exact rfl
    all_goals rfl
  have c1 : ¬ (S1.length : Int) ≤ 12 := by omega
  obtain ⟨m, hm⟩ : ∃ m, lim = m + 1 := ⟨lim - 1, by omega⟩
  have c2 : ¬ (lim : Int) = 0 := by omega
  have w1 : IntKind.i64.wrap ((lim : Int) - 1) = (m : Int) := w64_sub1 hm (by omega)
  right
  cases wb with
  | true =>
    obtain ⟨p, h, p1, p2, r1⟩ := choose_ev g cl n V gw (P ++ (A ++ (S1 ++ (B ++ Q)))) hn a b S1.length hbb (by omega) (by omega) hb
    refine ⟨?_, S1, p, lim, h, fun t => ?_, ?_, .refl _, by omega, p1, p2, by omega, hl2, ?_⟩
    case refine_2 =>
      simp only [pdqB, pdqPre5, c_slices_pdqsortOrdered_int_L1, w0, c1, c2, r1, Go.Ev.exec, Go.Ev.evOpers, Go.Ev.evOper, Go.Ev.item_op, Go.Ev.item_I, Go.Ev.evOp, Go.Ev.evs, Go.Ev.Opnd.ev, Go.Ev.Env.get, Go.Ev.Env.set, Go.Ev.look, Go.Ev.bin_sub, Go.Ev.bin_eql, Go.Ev.bin_leq, ↓Go.Ev.obind, ↓reduceIte, List.getElem?_cons_zero, List.getElem?_cons_succ, Nat.reduceEqDiff, reduceCtorEq, decide_false, Bool.not_true, Bool.false_eq_true, eq_self]
      exact rfl
    case refine_3 => rfl
    case refine_4 => simp only [Go.Ev.look, ↓reduceIte, Nat.reduceEqDiff, reduceCtorEq, and_self, eq_self]
  | false =>
    obtain ⟨S2, p1, r1⟩ := brk_ev g cl n V gw (P ++ A) S1 (B ++ Q) a b (by simp; omega) hbb (by omega) (by simp; omega) hb
    have hl := p1.length_eq
    simp only [List.append_assoc] at r1
    obtain ⟨p, h, q1, q2, r2⟩ := choose_ev g cl n V gw (P ++ (A ++ (S2 ++ (B ++ Q)))) (by simp; omega) a b S1.length hbb (by omega) (by omega) hb
    refine ⟨?_, S2, p, m, h, fun t => ?_, ?_, p1, by omega, q1, q2, by omega, by omega, ?_⟩
    case refine_2 =>
      simp only [pdqB, pdqPre5, c_slices_pdqsortOrdered_int_L1, w0, c1, c2, w1, r1, r2, Go.Ev.exec, Go.Ev.evOpers, Go.Ev.evOper, Go.Ev.item_op, Go.Ev.item_I, Go.Ev.evOp, Go.Ev.evs, Go.Ev.Opnd.ev, Go.Ev.Env.get, Go.Ev.Env.set, Go.Ev.look, Go.Ev.bin_sub, Go.Ev.bin_eql, Go.Ev.bin_leq, ↓Go.Ev.obind, ↓reduceIte, List.getElem?_cons_zero, List.getElem?_cons_succ, Nat.reduceEqDiff, reduceCtorEq, decide_false, Bool.not_false, Bool.false_eq_true, eq_self]
      exact rfl
    case refine_3 => rfl
    case refine_4 => simp only [Go.Ev.look, ↓reduceIte, Nat.reduceEqDiff, reduceCtorEq, and_self, eq_self]
end
end Go.Proofs.Ytbkabnhkclbepaa.K
