/- For every input the statement of this claim returns true: texts of its proof, joined (part 9). -/
import Derived.Test.YthkjkdbjgpeigaaGA05
import Derived.Test.YthkjkdbjgpeigaaGA06
import Derived.Test.YthkjkdbjgpeigaaGA07
set_option linter.unusedSectionVars false
set_option linter.unusedSimpArgs false
set_option linter.unusedVariables false
namespace Go.Proofs.Ythkjkdbjgpeigaa.K
open Go.Ev
set_option linter.unusedSimpArgs false
set_option linter.unusedVariables false
set_option maxRecDepth 10000
section
variable (g : Nat) (cl : Bool) (n : Nat)
def MergeTo (a m b : Nat) (D D' : List Evt) : Prop := (evL T).call n_slices_symMergeCmpFunc_api_SimEvent [.sl 0 g 0 n cl, (.v (.int .i64 (a))), (.v (.int .i64 (m))), (.v (.int .i64 (b))), (.fn (.func n_evkey_CompareEvents) [] [])] [.row 6 ((D).map Evt.r) g] = some (.tup [], [.row 6 ((D').map Evt.r) g])
structure Nums (x1 x2 y1 y2 a m b mid nn lo hi p start fin : Nat) : Prop where
  hX1 : 1 < x1 + x2
  hY1 : 1 < y1 + y2
  hb : n < 2 ^ 61
  hmid : mid = (a + b) / 2
  hnn : nn = mid + m
  hp : nn = p + 1
  hfin : nn = start + fin
  hm : m = a + (x1 + x2)
  hbb : b = m + (y1 + y2)
  hbn : b ≤ n
  hst : start = a + x1
  hfi : fin = m + y1
structure Wraps (x1 x2 y1 y2 a m b mid nn p start fin : Nat) : Prop where
  w1 : IntKind.i64.wrap ((m : Int) - (a : Int)) = ((x1 + x2 : Nat) : Int)
  h1 : ¬ ((x1 + x2 : Nat) : Int) = 1
  w2 : IntKind.i64.wrap ((b : Int) - (m : Int)) = ((y1 + y2 : Nat) : Int)
  h2 : ¬ ((y1 + y2 : Nat) : Int) = 1
  w3 : IntKind.i64.wrap ((a : Int) + (b : Int)) = ((a + b : Nat) : Int)
  w4 : IntKind.u64.wrap ((a + b : Nat) : Int) = ((a + b : Nat) : Int)
  w5 : evBin .shr (.v (.int .u64 ((a + b : Nat) : Int))) (.v (.int .u64 1)) = some (.v (.int .u64 (mid : Int)))
  w6 : IntKind.i64.wrap (mid : Int) = (mid : Int)
  w7 : IntKind.i64.wrap ((mid : Int) + (m : Int)) = (nn : Int)
  w8 : IntKind.i64.wrap ((nn : Int) - 1) = (p : Int)
  w9 : IntKind.i64.wrap ((nn : Int) - (start : Int)) = (fin : Int)
  c5 : mid < fin ↔ start < m
  c6 : start < mid ↔ m < fin
theorem Nums.wraps {n x1 x2 y1 y2 a m b mid nn lo hi p start fin : Nat} (N : Nums n x1 x2 y1 y2 a m b mid nn lo hi p start fin) : Wraps x1 x2 y1 y2 a m b mid nn p start fin := by
  obtain ⟨hX1, hY1, hb, hmid, hnn, hp, hfin, hm, hbb, hbn, hst, hfi⟩ := N
  refine ⟨w64_sub hm (by omega), by omega, w64_sub hbb (by omega), by omega, w64_add (by omega), u64_small (by omega), half_bin (a + b) mid hmid, i64_small (by omega), ?_, w64_sub1 hp (by omega), w64_sub hfin (by omega), by omega, by omega⟩
  rw [hnn]; exact w64_add (by omega)
def Finds (a m b mid nn lo hi p start : Nat) (D : List Evt) : Prop := ∃ y, itB (exec (evL T) itL none c_slices_symMergeCmpFunc_api_SimEvent_L5) (Ev.settle [0, 1, 2, 3, 4, 18, 19, 20, 21, 22] true 1) ⟨[(0, .sl 0 g 0 n cl), (1, (.v (.int .i64 (a)))), (2, (.v (.int .i64 (m)))), (3, (.v (.int .i64 (b)))), (4, (.fn (.func n_evkey_CompareEvents) [] [])), (18, (.v (.int .i64 (mid)))), (19, (.v (.int .i64 (nn)))), (20, (.v (.int .i64 (lo)))), (21, (.v (.int .i64 (hi)))), (22, (.v (.int .i64 (p))))], []⟩ [.row 6 ((D).map Evt.r) g] = some y ∧
      (y.1 = .exit 8 ∧ y.2.1.marks = [] ∧ y.2.2 = [.row 6 ((D).map Evt.r) g] ∧ Ev.look y.2.1.vars 0 = some (.sl 0 g 0 n cl) ∧ Ev.look y.2.1.vars 1 = some (.v (.int .i64 (a))) ∧ Ev.look y.2.1.vars 2 = some (.v (.int .i64 (m))) ∧ Ev.look y.2.1.vars 3 = some (.v (.int .i64 (b))) ∧ Ev.look y.2.1.vars 4 = some (.fn (.func n_evkey_CompareEvents) [] []) ∧ Ev.look y.2.1.vars 18 = some (.v (.int .i64 (mid))) ∧
        Ev.look y.2.1.vars 19 = some (.v (.int .i64 (nn))) ∧ Ev.look y.2.1.vars 20 = some (.v (.int .i64 (start))))
structure Steps (a m b mid start fin : Nat) (D D2 D3 D4 : List Evt) : Prop where
  s1 : start < m → m < fin → (evL T).call n_slices_rotateCmpFunc_api_SimEvent [.sl 0 g 0 n cl, (.v (.int .i64 (start))), (.v (.int .i64 (m))), (.v (.int .i64 (fin))), (.fn (.func n_evkey_CompareEvents) [] [])] [.row 6 ((D).map Evt.r) g] = some (.tup [], [.row 6 ((D2).map Evt.r) g])
  n1 : ¬ (start < m ∧ m < fin) → D2 = D
  s2 : a < start → start < mid → MergeTo g cl n a start mid D2 D3
  n2 : ¬ (a < start ∧ start < mid) → D3 = D2
  s3 : mid < fin → fin < b → MergeTo g cl n mid fin b D3 D4
  n3 : ¬ (mid < fin ∧ fin < b) → D4 = D3
theorem merge_way_11111 (x1 x2 y1 y2 a m b mid nn lo hi p start fin : Nat) (D D2 D3 D4 : List Evt) (N : Nums n x1 x2 y1 y2 a m b mid nn lo hi p start fin) (g1 : mid < m) (g2 : nn = b + lo)
    (d1 : start < m) (d2 : m < fin) (d3 : a < start) (d4 : fin < b)
    (hf : Finds g cl n a m b mid nn lo mid p start D) (hS : Steps g cl n a m b mid start fin D D2 D3 D4) : MergeTo g cl n a m b D D4 := by
  obtain ⟨s1, n1, s2, n2, s3, n3⟩ := hS
  obtain ⟨⟨y, e, σ⟩, k1, k2, k3, k4, k5, k6, k7, k8, k9, k10, k11, k12⟩ := hf
  obtain ⟨w1, h1, w2, h2, w3, w4, w5, w6, w7, w8, w9, c5, c6⟩ := N.wraps
  simp only at k1 k2 k3 k4 k5 k6 k7 k8 k9 k10 k11 k12
  subst k2; subst k4
  unfold MergeTo at *
  rw [evL_code ext_slices_symMergeCmpFunc_api_SimEvent code_slices_symMergeCmpFunc_api_SimEvent]
  have g4 : (m : Int) > (mid : Int) := Int.ofNat_lt.2 g1
  have g5 : IntKind.i64.wrap ((nn : Int) - (b : Int)) = (lo : Int) := w64_sub g2 (by have := N.hnn; have := N.hmid; have := N.hb; have := N.hbn; have := N.hm; have := N.hbb; omega)
  have e1 : (start : Int) < (m : Int) := Int.ofNat_lt.2 d1
  have e2 : (m : Int) < (fin : Int) := Int.ofNat_lt.2 d2
  have e3 : (a : Int) < (start : Int) := Int.ofNat_lt.2 d3
  have e5 : (mid : Int) < (fin : Int) := Int.ofNat_lt.2 (c5.2 d1)
  have e6 : (start : Int) < (mid : Int) := Int.ofNat_lt.2 (c6.2 d2)
  have e4 : (fin : Int) < (b : Int) := Int.ofNat_lt.2 d4
  have r1 := s1 d1 d2
  have r2 := s2 d3 (c6.2 d2)
  have r3 := s3 (c5.2 d1) d4
  simp only [c_slices_symMergeCmpFunc_api_SimEvent, w1, w2, w3, w4, w5, w6, w7, w8, w9, h1, h2, g4, k1, k3, k5, k6, k7, k8, k9, k10, k11, k12, e1, e2, e3, e5, e6, g5, r1, r2, r3, e4, evts_lo, Ev.runFunc, Ev.exec, Ev.evOpers, Ev.evOper, Ev.item_op, Ev.item_I, Ev.evOp, Ev.evs, Ev.Opnd.ev, Ev.Env.get, Ev.Env.set, Ev.look, Ev.argVars, Ev.bin_add, Ev.bin_sub, Ev.bin_eql, Ev.bin_lss, Ev.bin_gtr, Ev.resVals, Ev.resOf, Ev.kill, Ev.leave, Ev.settle, Ev.keep, Ev.varsLo, Ev.marksLo, Ev.storeLo, Ev.SObj.lo, Ev.lo_v, Ev.lo_tup, Ev.lo_sl, Ev.lo_fn, Ev.los_nil, ↓Ev.obind, ↓Ev.itL_itB, ↓reduceIte, List.length_cons, List.length_nil, List.take_succ_cons, List.take_nil, Nat.reduceAdd, Nat.reduceEqDiff, reduceCtorEq, decide_true, decide_false, Bool.and_self, Bool.false_eq_true, and_self, Nat.zero_add, Nat.lt_add_one, eq_self]
theorem merge_way_11110 (x1 x2 y1 y2 a m b mid nn lo hi p start fin : Nat) (D D2 D3 D4 : List Evt) (N : Nums n x1 x2 y1 y2 a m b mid nn lo hi p start fin) (g1 : mid < m) (g2 : nn = b + lo)
    (d1 : start < m) (d2 : m < fin) (d3 : a < start) (d4 : ¬ fin < b)
    (hf : Finds g cl n a m b mid nn lo mid p start D) (hS : Steps g cl n a m b mid start fin D D2 D3 D4) : MergeTo g cl n a m b D D4 := by
  obtain ⟨s1, n1, s2, n2, s3, n3⟩ := hS
  obtain ⟨⟨y, e, σ⟩, k1, k2, k3, k4, k5, k6, k7, k8, k9, k10, k11, k12⟩ := hf
  obtain ⟨w1, h1, w2, h2, w3, w4, w5, w6, w7, w8, w9, c5, c6⟩ := N.wraps
  simp only at k1 k2 k3 k4 k5 k6 k7 k8 k9 k10 k11 k12
  subst k2; subst k4
  unfold MergeTo at *
  rw [evL_code ext_slices_symMergeCmpFunc_api_SimEvent code_slices_symMergeCmpFunc_api_SimEvent]
  have g4 : (m : Int) > (mid : Int) := Int.ofNat_lt.2 g1
  have g5 : IntKind.i64.wrap ((nn : Int) - (b : Int)) = (lo : Int) := w64_sub g2 (by have := N.hnn; have := N.hmid; have := N.hb; have := N.hbn; have := N.hm; have := N.hbb; omega)
  have e1 : (start : Int) < (m : Int) := Int.ofNat_lt.2 d1
  have e2 : (m : Int) < (fin : Int) := Int.ofNat_lt.2 d2
  have e3 : (a : Int) < (start : Int) := Int.ofNat_lt.2 d3
  have e5 : (mid : Int) < (fin : Int) := Int.ofNat_lt.2 (c5.2 d1)
  have e6 : (start : Int) < (mid : Int) := Int.ofNat_lt.2 (c6.2 d2)
  have e4 : ¬ (fin : Int) < (b : Int) := fun h => d4 (Int.ofNat_lt.1 h)
  have r1 := s1 d1 d2
  have r2 := s2 d3 (c6.2 d2)
  have r3 := n3 (fun h => d4 h.2); subst r3
  simp only [c_slices_symMergeCmpFunc_api_SimEvent, w1, w2, w3, w4, w5, w6, w7, w8, w9, h1, h2, g4, k1, k3, k5, k6, k7, k8, k9, k10, k11, k12, e1, e2, e3, e5, e6, g5, r1, r2, e4, evts_lo, Ev.runFunc, Ev.exec, Ev.evOpers, Ev.evOper, Ev.item_op, Ev.item_I, Ev.evOp, Ev.evs, Ev.Opnd.ev, Ev.Env.get, Ev.Env.set, Ev.look, Ev.argVars, Ev.bin_add, Ev.bin_sub, Ev.bin_eql, Ev.bin_lss, Ev.bin_gtr, Ev.resVals, Ev.resOf, Ev.kill, Ev.leave, Ev.settle, Ev.keep, Ev.varsLo, Ev.marksLo, Ev.storeLo, Ev.SObj.lo, Ev.lo_v, Ev.lo_tup, Ev.lo_sl, Ev.lo_fn, Ev.los_nil, ↓Ev.obind, ↓Ev.itL_itB, ↓reduceIte, List.length_cons, List.length_nil, List.take_succ_cons, List.take_nil, Nat.reduceAdd, Nat.reduceEqDiff, reduceCtorEq, decide_true, decide_false, Bool.and_self, Bool.false_eq_true, and_self, Nat.zero_add, Nat.lt_add_one, eq_self]
theorem merge_way_11101 (x1 x2 y1 y2 a m b mid nn lo hi p start fin : Nat) (D D2 D3 D4 : List Evt) (N : Nums n x1 x2 y1 y2 a m b mid nn lo hi p start fin) (g1 : mid < m) (g2 : nn = b + lo)
    (d1 : start < m) (d2 : m < fin) (d3 : ¬ a < start) (d4 : fin < b)
    (hf : Finds g cl n a m b mid nn lo mid p start D) (hS : Steps g cl n a m b mid start fin D D2 D3 D4) : MergeTo g cl n a m b D D4 := by
  obtain ⟨s1, n1, s2, n2, s3, n3⟩ := hS
  obtain ⟨⟨y, e, σ⟩, k1, k2, k3, k4, k5, k6, k7, k8, k9, k10, k11, k12⟩ := hf
  obtain ⟨w1, h1, w2, h2, w3, w4, w5, w6, w7, w8, w9, c5, c6⟩ := N.wraps
  simp only at k1 k2 k3 k4 k5 k6 k7 k8 k9 k10 k11 k12
  subst k2; subst k4
  unfold MergeTo at *
  rw [evL_code ext_slices_symMergeCmpFunc_api_SimEvent code_slices_symMergeCmpFunc_api_SimEvent]
  have g4 : (m : Int) > (mid : Int) := Int.ofNat_lt.2 g1
  have g5 : IntKind.i64.wrap ((nn : Int) - (b : Int)) = (lo : Int) := w64_sub g2 (by have := N.hnn; have := N.hmid; have := N.hb; have := N.hbn; have := N.hm; have := N.hbb; omega)
  have e1 : (start : Int) < (m : Int) := Int.ofNat_lt.2 d1
  have e2 : (m : Int) < (fin : Int) := Int.ofNat_lt.2 d2
  have e3 : ¬ (a : Int) < (start : Int) := fun h => d3 (Int.ofNat_lt.1 h)
  have e5 : (mid : Int) < (fin : Int) := Int.ofNat_lt.2 (c5.2 d1)
  have e6 : (start : Int) < (mid : Int) := Int.ofNat_lt.2 (c6.2 d2)
  have e4 : (fin : Int) < (b : Int) := Int.ofNat_lt.2 d4
  have r1 := s1 d1 d2
  have r2 := n2 (fun h => d3 h.1); subst r2
  have r3 := s3 (c5.2 d1) d4
  simp only [c_slices_symMergeCmpFunc_api_SimEvent, w1, w2, w3, w4, w5, w6, w7, w8, w9, h1, h2, g4, k1, k3, k5, k6, k7, k8, k9, k10, k11, k12, e1, e2, e3, e5, g5, r1, r3, e4, evts_lo, Ev.runFunc, Ev.exec, Ev.evOpers, Ev.evOper, Ev.item_op, Ev.item_I, Ev.evOp, Ev.evs, Ev.Opnd.ev, Ev.Env.get, Ev.Env.set, Ev.Env.unset, Ev.look, Ev.argVars, Ev.bin_add, Ev.bin_sub, Ev.bin_eql, Ev.bin_lss, Ev.bin_gtr, Ev.resVals, Ev.resOf, Ev.kill, Ev.leave, Ev.settle, Ev.keep, Ev.varsLo, Ev.marksLo, Ev.storeLo, Ev.SObj.lo, Ev.lo_v, Ev.lo_tup, Ev.lo_sl, Ev.lo_fn, Ev.los_nil, ↓Ev.obind, ↓Ev.itL_itB, ↓reduceIte, List.length_cons, List.length_nil, List.take_succ_cons, List.take_nil, Nat.reduceAdd, Nat.reduceEqDiff, reduceCtorEq, decide_true, decide_false, Bool.and_self, Bool.false_eq_true, and_self, Nat.zero_add, Nat.lt_add_one, eq_self]
theorem merge_way_11100 (x1 x2 y1 y2 a m b mid nn lo hi p start fin : Nat) (D D2 D3 D4 : List Evt) (N : Nums n x1 x2 y1 y2 a m b mid nn lo hi p start fin) (g1 : mid < m) (g2 : nn = b + lo)
    (d1 : start < m) (d2 : m < fin) (d3 : ¬ a < start) (d4 : ¬ fin < b)
    (hf : Finds g cl n a m b mid nn lo mid p start D) (hS : Steps g cl n a m b mid start fin D D2 D3 D4) : MergeTo g cl n a m b D D4 := by
  obtain ⟨s1, n1, s2, n2, s3, n3⟩ := hS
  obtain ⟨⟨y, e, σ⟩, k1, k2, k3, k4, k5, k6, k7, k8, k9, k10, k11, k12⟩ := hf
  obtain ⟨w1, h1, w2, h2, w3, w4, w5, w6, w7, w8, w9, c5, c6⟩ := N.wraps
  simp only at k1 k2 k3 k4 k5 k6 k7 k8 k9 k10 k11 k12
  subst k2; subst k4
  unfold MergeTo at *
  rw [evL_code ext_slices_symMergeCmpFunc_api_SimEvent code_slices_symMergeCmpFunc_api_SimEvent]
  have g4 : (m : Int) > (mid : Int) := Int.ofNat_lt.2 g1
  have g5 : IntKind.i64.wrap ((nn : Int) - (b : Int)) = (lo : Int) := w64_sub g2 (by have := N.hnn; have := N.hmid; have := N.hb; have := N.hbn; have := N.hm; have := N.hbb; omega)
  have e1 : (start : Int) < (m : Int) := Int.ofNat_lt.2 d1
  have e2 : (m : Int) < (fin : Int) := Int.ofNat_lt.2 d2
  have e3 : ¬ (a : Int) < (start : Int) := fun h => d3 (Int.ofNat_lt.1 h)
  have e5 : (mid : Int) < (fin : Int) := Int.ofNat_lt.2 (c5.2 d1)
  have e6 : (start : Int) < (mid : Int) := Int.ofNat_lt.2 (c6.2 d2)
  have e4 : ¬ (fin : Int) < (b : Int) := fun h => d4 (Int.ofNat_lt.1 h)
  have r1 := s1 d1 d2
  have r2 := n2 (fun h => d3 h.1); subst r2
  have r3 := n3 (fun h => d4 h.2); subst r3
  simp only [c_slices_symMergeCmpFunc_api_SimEvent, w1, w2, w3, w4, w5, w6, w7, w8, w9, h1, h2, g4, k1, k3, k5, k6, k7, k8, k9, k10, k11, k12, e1, e2, e3, e5, g5, r1, e4, evts_lo, Ev.runFunc, Ev.exec, Ev.evOpers, Ev.evOper, Ev.item_op, Ev.item_I, Ev.evOp, Ev.evs, Ev.Opnd.ev, Ev.Env.get, Ev.Env.set, Ev.Env.unset, Ev.look, Ev.argVars, Ev.bin_add, Ev.bin_sub, Ev.bin_eql, Ev.bin_lss, Ev.bin_gtr, Ev.resVals, Ev.resOf, Ev.kill, Ev.leave, Ev.settle, Ev.keep, Ev.varsLo, Ev.marksLo, Ev.storeLo, Ev.SObj.lo, Ev.lo_v, Ev.lo_tup, Ev.lo_sl, Ev.lo_fn, Ev.los_nil, ↓Ev.obind, ↓Ev.itL_itB, ↓reduceIte, List.length_cons, List.length_nil, List.take_succ_cons, List.take_nil, Nat.reduceAdd, Nat.reduceEqDiff, reduceCtorEq, decide_true, decide_false, Bool.and_self, Bool.false_eq_true, and_self, Nat.zero_add, Nat.lt_add_one, eq_self]
theorem merge_way_11011 (x1 x2 y1 y2 a m b mid nn lo hi p start fin : Nat) (D D2 D3 D4 : List Evt) (N : Nums n x1 x2 y1 y2 a m b mid nn lo hi p start fin) (g1 : mid < m) (g2 : nn = b + lo)
    (d1 : start < m) (d2 : ¬ m < fin) (d3 : a < start) (d4 : fin < b)
    (hf : Finds g cl n a m b mid nn lo mid p start D) (hS : Steps g cl n a m b mid start fin D D2 D3 D4) : MergeTo g cl n a m b D D4 := by
  obtain ⟨s1, n1, s2, n2, s3, n3⟩ := hS
  obtain ⟨⟨y, e, σ⟩, k1, k2, k3, k4, k5, k6, k7, k8, k9, k10, k11, k12⟩ := hf
  obtain ⟨w1, h1, w2, h2, w3, w4, w5, w6, w7, w8, w9, c5, c6⟩ := N.wraps
  simp only at k1 k2 k3 k4 k5 k6 k7 k8 k9 k10 k11 k12
  subst k2; subst k4
  unfold MergeTo at *
  rw [evL_code ext_slices_symMergeCmpFunc_api_SimEvent code_slices_symMergeCmpFunc_api_SimEvent]
  have g4 : (m : Int) > (mid : Int) := Int.ofNat_lt.2 g1
  have g5 : IntKind.i64.wrap ((nn : Int) - (b : Int)) = (lo : Int) := w64_sub g2 (by have := N.hnn; have := N.hmid; have := N.hb; have := N.hbn; have := N.hm; have := N.hbb; omega)
  have e1 : (start : Int) < (m : Int) := Int.ofNat_lt.2 d1
  have e2 : ¬ (m : Int) < (fin : Int) := fun h => d2 (Int.ofNat_lt.1 h)
  have e3 : (a : Int) < (start : Int) := Int.ofNat_lt.2 d3
  have e5 : (mid : Int) < (fin : Int) := Int.ofNat_lt.2 (c5.2 d1)
  have e6 : ¬ (start : Int) < (mid : Int) := fun h => d2 (c6.1 (Int.ofNat_lt.1 h))
  have e4 : (fin : Int) < (b : Int) := Int.ofNat_lt.2 d4
  have r1 := n1 (fun h => d2 h.2); subst r1
  have r2 := n2 (fun h => d2 (c6.1 h.2)); subst r2
  have r3 := s3 (c5.2 d1) d4
  simp only [c_slices_symMergeCmpFunc_api_SimEvent, w1, w2, w3, w4, w5, w6, w7, w8, w9, h1, h2, g4, k1, k3, k5, k6, k7, k8, k9, k10, k11, k12, e1, e2, e3, e5, e6, g5, r3, e4, evts_lo, Ev.runFunc, Ev.exec, Ev.evOpers, Ev.evOper, Ev.item_op, Ev.item_I, Ev.evOp, Ev.evs, Ev.Opnd.ev, Ev.Env.get, Ev.Env.set, Ev.look, Ev.argVars, Ev.bin_add, Ev.bin_sub, Ev.bin_eql, Ev.bin_lss, Ev.bin_gtr, Ev.resVals, Ev.resOf, Ev.kill, Ev.leave, Ev.settle, Ev.keep, Ev.varsLo, Ev.marksLo, Ev.storeLo, Ev.SObj.lo, Ev.lo_v, Ev.lo_tup, Ev.lo_sl, Ev.lo_fn, Ev.los_nil, ↓Ev.obind, ↓Ev.itL_itB, ↓reduceIte, List.length_cons, List.length_nil, List.take_succ_cons, List.take_nil, Nat.reduceAdd, Nat.reduceEqDiff, reduceCtorEq, decide_true, decide_false, Bool.and_self, Bool.false_eq_true, and_self, Nat.zero_add, Nat.lt_add_one, eq_self]
theorem merge_way_11010 (x1 x2 y1 y2 a m b mid nn lo hi p start fin : Nat) (D D2 D3 D4 : List Evt) (N : Nums n x1 x2 y1 y2 a m b mid nn lo hi p start fin) (g1 : mid < m) (g2 : nn = b + lo)
    (d1 : start < m) (d2 : ¬ m < fin) (d3 : a < start) (d4 : ¬ fin < b)
    (hf : Finds g cl n a m b mid nn lo mid p start D) (hS : Steps g cl n a m b mid start fin D D2 D3 D4) : MergeTo g cl n a m b D D4 := by
  obtain ⟨s1, n1, s2, n2, s3, n3⟩ := hS
  obtain ⟨⟨y, e, σ⟩, k1, k2, k3, k4, k5, k6, k7, k8, k9, k10, k11, k12⟩ := hf
  obtain ⟨w1, h1, w2, h2, w3, w4, w5, w6, w7, w8, w9, c5, c6⟩ := N.wraps
  simp only at k1 k2 k3 k4 k5 k6 k7 k8 k9 k10 k11 k12
  subst k2; subst k4
  unfold MergeTo at *
  rw [evL_code ext_slices_symMergeCmpFunc_api_SimEvent code_slices_symMergeCmpFunc_api_SimEvent]
  have g4 : (m : Int) > (mid : Int) := Int.ofNat_lt.2 g1
  have g5 : IntKind.i64.wrap ((nn : Int) - (b : Int)) = (lo : Int) := w64_sub g2 (by have := N.hnn; have := N.hmid; have := N.hb; have := N.hbn; have := N.hm; have := N.hbb; omega)
  have e1 : (start : Int) < (m : Int) := Int.ofNat_lt.2 d1
  have e2 : ¬ (m : Int) < (fin : Int) := fun h => d2 (Int.ofNat_lt.1 h)
  have e3 : (a : Int) < (start : Int) := Int.ofNat_lt.2 d3
  have e5 : (mid : Int) < (fin : Int) := Int.ofNat_lt.2 (c5.2 d1)
  have e6 : ¬ (start : Int) < (mid : Int) := fun h => d2 (c6.1 (Int.ofNat_lt.1 h))
  have e4 : ¬ (fin : Int) < (b : Int) := fun h => d4 (Int.ofNat_lt.1 h)
  have r1 := n1 (fun h => d2 h.2); subst r1
  have r2 := n2 (fun h => d2 (c6.1 h.2)); subst r2
  have r3 := n3 (fun h => d4 h.2); subst r3
  simp only [c_slices_symMergeCmpFunc_api_SimEvent, w1, w2, w3, w4, w5, w6, w7, w8, w9, h1, h2, g4, k1, k3, k6, k7, k8, k10, k11, k12, e1, e2, e3, e5, e6, g5, e4, evts_lo, Ev.runFunc, Ev.exec, Ev.evOpers, Ev.evOper, Ev.item_op, Ev.evOp, Ev.Opnd.ev, Ev.Env.get, Ev.Env.set, Ev.look, Ev.argVars, Ev.bin_add, Ev.bin_sub, Ev.bin_eql, Ev.bin_lss, Ev.bin_gtr, Ev.resVals, Ev.resOf, Ev.kill, Ev.leave, Ev.settle, Ev.keep, Ev.varsLo, Ev.marksLo, Ev.storeLo, Ev.SObj.lo, Ev.lo_v, Ev.lo_tup, Ev.lo_sl, Ev.lo_fn, Ev.los_nil, ↓Ev.obind, ↓Ev.itL_itB, ↓reduceIte, List.length_cons, List.length_nil, List.take_succ_cons, List.take_nil, Nat.reduceAdd, Nat.reduceEqDiff, reduceCtorEq, decide_true, decide_false, Bool.and_self, Bool.false_eq_true, and_self, Nat.zero_add, Nat.lt_add_one, eq_self]
theorem merge_way_11001 (x1 x2 y1 y2 a m b mid nn lo hi p start fin : Nat) (D D2 D3 D4 : List Evt) (N : Nums n x1 x2 y1 y2 a m b mid nn lo hi p start fin) (g1 : mid < m) (g2 : nn = b + lo)
    (d1 : start < m) (d2 : ¬ m < fin) (d3 : ¬ a < start) (d4 : fin < b)
    (hf : Finds g cl n a m b mid nn lo mid p start D) (hS : Steps g cl n a m b mid start fin D D2 D3 D4) : MergeTo g cl n a m b D D4 := by
  obtain ⟨s1, n1, s2, n2, s3, n3⟩ := hS
  obtain ⟨⟨y, e, σ⟩, k1, k2, k3, k4, k5, k6, k7, k8, k9, k10, k11, k12⟩ := hf
  obtain ⟨w1, h1, w2, h2, w3, w4, w5, w6, w7, w8, w9, c5, c6⟩ := N.wraps
  simp only at k1 k2 k3 k4 k5 k6 k7 k8 k9 k10 k11 k12
  subst k2; subst k4
  unfold MergeTo at *
  rw [evL_code ext_slices_symMergeCmpFunc_api_SimEvent code_slices_symMergeCmpFunc_api_SimEvent]
  have g4 : (m : Int) > (mid : Int) := Int.ofNat_lt.2 g1
  have g5 : IntKind.i64.wrap ((nn : Int) - (b : Int)) = (lo : Int) := w64_sub g2 (by have := N.hnn; have := N.hmid; have := N.hb; have := N.hbn; have := N.hm; have := N.hbb; omega)
  have e1 : (start : Int) < (m : Int) := Int.ofNat_lt.2 d1
  have e2 : ¬ (m : Int) < (fin : Int) := fun h => d2 (Int.ofNat_lt.1 h)
  have e3 : ¬ (a : Int) < (start : Int) := fun h => d3 (Int.ofNat_lt.1 h)
  have e5 : (mid : Int) < (fin : Int) := Int.ofNat_lt.2 (c5.2 d1)
  have e6 : ¬ (start : Int) < (mid : Int) := fun h => d2 (c6.1 (Int.ofNat_lt.1 h))
  have e4 : (fin : Int) < (b : Int) := Int.ofNat_lt.2 d4
  have r1 := n1 (fun h => d2 h.2); subst r1
  have r2 := n2 (fun h => d3 h.1); subst r2
  have r3 := s3 (c5.2 d1) d4
  simp only [c_slices_symMergeCmpFunc_api_SimEvent, w1, w2, w3, w4, w5, w6, w7, w8, w9, h1, h2, g4, k1, k3, k5, k6, k7, k8, k9, k10, k11, k12, e1, e2, e3, e5, g5, r3, e4, evts_lo, Ev.runFunc, Ev.exec, Ev.evOpers, Ev.evOper, Ev.item_op, Ev.item_I, Ev.evOp, Ev.evs, Ev.Opnd.ev, Ev.Env.get, Ev.Env.set, Ev.Env.unset, Ev.look, Ev.argVars, Ev.bin_add, Ev.bin_sub, Ev.bin_eql, Ev.bin_lss, Ev.bin_gtr, Ev.resVals, Ev.resOf, Ev.kill, Ev.leave, Ev.settle, Ev.keep, Ev.varsLo, Ev.marksLo, Ev.storeLo, Ev.SObj.lo, Ev.lo_v, Ev.lo_tup, Ev.lo_sl, Ev.lo_fn, Ev.los_nil, ↓Ev.obind, ↓Ev.itL_itB, ↓reduceIte, List.length_cons, List.length_nil, List.take_succ_cons, List.take_nil, Nat.reduceAdd, Nat.reduceEqDiff, reduceCtorEq, decide_true, decide_false, Bool.and_self, Bool.false_eq_true, and_self, Nat.zero_add, Nat.lt_add_one, eq_self]
theorem merge_way_11000 (x1 x2 y1 y2 a m b mid nn lo hi p start fin : Nat) (D D2 D3 D4 : List Evt) (N : Nums n x1 x2 y1 y2 a m b mid nn lo hi p start fin) (g1 : mid < m) (g2 : nn = b + lo)
    (d1 : start < m) (d2 : ¬ m < fin) (d3 : ¬ a < start) (d4 : ¬ fin < b)
    (hf : Finds g cl n a m b mid nn lo mid p start D) (hS : Steps g cl n a m b mid start fin D D2 D3 D4) : MergeTo g cl n a m b D D4 := by
  obtain ⟨s1, n1, s2, n2, s3, n3⟩ := hS
  obtain ⟨⟨y, e, σ⟩, k1, k2, k3, k4, k5, k6, k7, k8, k9, k10, k11, k12⟩ := hf
  obtain ⟨w1, h1, w2, h2, w3, w4, w5, w6, w7, w8, w9, c5, c6⟩ := N.wraps
  simp only at k1 k2 k3 k4 k5 k6 k7 k8 k9 k10 k11 k12
  subst k2; subst k4
  unfold MergeTo at *
  rw [evL_code ext_slices_symMergeCmpFunc_api_SimEvent code_slices_symMergeCmpFunc_api_SimEvent]
  have g4 : (m : Int) > (mid : Int) := Int.ofNat_lt.2 g1
  have g5 : IntKind.i64.wrap ((nn : Int) - (b : Int)) = (lo : Int) := w64_sub g2 (by have := N.hnn; have := N.hmid; have := N.hb; have := N.hbn; have := N.hm; have := N.hbb; omega)
  have e1 : (start : Int) < (m : Int) := Int.ofNat_lt.2 d1
  have e2 : ¬ (m : Int) < (fin : Int) := fun h => d2 (Int.ofNat_lt.1 h)
  have e3 : ¬ (a : Int) < (start : Int) := fun h => d3 (Int.ofNat_lt.1 h)
  have e5 : (mid : Int) < (fin : Int) := Int.ofNat_lt.2 (c5.2 d1)
  have e6 : ¬ (start : Int) < (mid : Int) := fun h => d2 (c6.1 (Int.ofNat_lt.1 h))
  have e4 : ¬ (fin : Int) < (b : Int) := fun h => d4 (Int.ofNat_lt.1 h)
  have r1 := n1 (fun h => d2 h.2); subst r1
  have r2 := n2 (fun h => d3 h.1); subst r2
  have r3 := n3 (fun h => d4 h.2); subst r3
  simp only [c_slices_symMergeCmpFunc_api_SimEvent, w1, w2, w3, w4, w5, w6, w7, w8, w9, h1, h2, g4, k1, k3, k6, k7, k8, k10, k11, k12, e1, e2, e3, e5, g5, e4, evts_lo, Ev.runFunc, Ev.exec, Ev.evOpers, Ev.evOper, Ev.item_op, Ev.evOp, Ev.Opnd.ev, Ev.Env.get, Ev.Env.set, Ev.Env.unset, Ev.look, Ev.argVars, Ev.bin_add, Ev.bin_sub, Ev.bin_eql, Ev.bin_lss, Ev.bin_gtr, Ev.resVals, Ev.resOf, Ev.kill, Ev.leave, Ev.settle, Ev.keep, Ev.varsLo, Ev.marksLo, Ev.storeLo, Ev.SObj.lo, Ev.lo_v, Ev.lo_tup, Ev.lo_sl, Ev.lo_fn, Ev.los_nil, ↓Ev.obind, ↓Ev.itL_itB, ↓reduceIte, List.length_cons, List.length_nil, List.take_succ_cons, List.take_nil, Nat.reduceAdd, Nat.reduceEqDiff, reduceCtorEq, decide_true, decide_false, Bool.and_self, Bool.false_eq_true, and_self, Nat.zero_add, Nat.lt_add_one, eq_self]
theorem merge_way_10111 (x1 x2 y1 y2 a m b mid nn lo hi p start fin : Nat) (D D2 D3 D4 : List Evt) (N : Nums n x1 x2 y1 y2 a m b mid nn lo hi p start fin) (g1 : mid < m) (g2 : nn = b + lo)
    (d1 : ¬ start < m) (d2 : m < fin) (d3 : a < start) (d4 : fin < b)
    (hf : Finds g cl n a m b mid nn lo mid p start D) (hS : Steps g cl n a m b mid start fin D D2 D3 D4) : MergeTo g cl n a m b D D4 := by
  obtain ⟨s1, n1, s2, n2, s3, n3⟩ := hS
  obtain ⟨⟨y, e, σ⟩, k1, k2, k3, k4, k5, k6, k7, k8, k9, k10, k11, k12⟩ := hf
  obtain ⟨w1, h1, w2, h2, w3, w4, w5, w6, w7, w8, w9, c5, c6⟩ := N.wraps
  simp only at k1 k2 k3 k4 k5 k6 k7 k8 k9 k10 k11 k12
  subst k2; subst k4
  unfold MergeTo at *
  rw [evL_code ext_slices_symMergeCmpFunc_api_SimEvent code_slices_symMergeCmpFunc_api_SimEvent]
  have g4 : (m : Int) > (mid : Int) := Int.ofNat_lt.2 g1
  have g5 : IntKind.i64.wrap ((nn : Int) - (b : Int)) = (lo : Int) := w64_sub g2 (by have := N.hnn; have := N.hmid; have := N.hb; have := N.hbn; have := N.hm; have := N.hbb; omega)
  have e1 : ¬ (start : Int) < (m : Int) := fun h => d1 (Int.ofNat_lt.1 h)
  have e2 : (m : Int) < (fin : Int) := Int.ofNat_lt.2 d2
  have e3 : (a : Int) < (start : Int) := Int.ofNat_lt.2 d3
  have e5 : ¬ (mid : Int) < (fin : Int) := fun h => d1 (c5.1 (Int.ofNat_lt.1 h))
  have e6 : (start : Int) < (mid : Int) := Int.ofNat_lt.2 (c6.2 d2)
  have e4 : (fin : Int) < (b : Int) := Int.ofNat_lt.2 d4
  have r1 := n1 (fun h => d1 h.1); subst r1
  have r2 := s2 d3 (c6.2 d2)
  have r3 := n3 (fun h => d1 (c5.1 h.1)); subst r3
  simp only [c_slices_symMergeCmpFunc_api_SimEvent, w1, w2, w3, w4, w5, w6, w7, w8, w9, h1, h2, g4, k1, k3, k5, k6, k7, k9, k10, k11, k12, e1, e3, e5, e6, g5, r2, evts_lo, Ev.runFunc, Ev.exec, Ev.evOpers, Ev.evOper, Ev.item_op, Ev.item_I, Ev.evOp, Ev.evs, Ev.Opnd.ev, Ev.Env.get, Ev.Env.set, Ev.Env.unset, Ev.look, Ev.argVars, Ev.bin_add, Ev.bin_sub, Ev.bin_eql, Ev.bin_lss, Ev.bin_gtr, Ev.resVals, Ev.resOf, Ev.kill, Ev.leave, Ev.settle, Ev.keep, Ev.varsLo, Ev.marksLo, Ev.storeLo, Ev.SObj.lo, Ev.lo_v, Ev.lo_tup, Ev.lo_sl, Ev.lo_fn, Ev.los_nil, ↓Ev.obind, ↓Ev.itL_itB, ↓reduceIte, List.length_cons, List.length_nil, List.take_succ_cons, List.take_nil, Nat.reduceAdd, Nat.reduceEqDiff, reduceCtorEq, decide_true, decide_false, Bool.and_self, Bool.false_eq_true, and_self, Nat.zero_add, Nat.lt_add_one, eq_self]
theorem merge_way_10110 (x1 x2 y1 y2 a m b mid nn lo hi p start fin : Nat) (D D2 D3 D4 : List Evt) (N : Nums n x1 x2 y1 y2 a m b mid nn lo hi p start fin) (g1 : mid < m) (g2 : nn = b + lo)
    (d1 : ¬ start < m) (d2 : m < fin) (d3 : a < start) (d4 : ¬ fin < b)
    (hf : Finds g cl n a m b mid nn lo mid p start D) (hS : Steps g cl n a m b mid start fin D D2 D3 D4) : MergeTo g cl n a m b D D4 := by
  obtain ⟨s1, n1, s2, n2, s3, n3⟩ := hS
  obtain ⟨⟨y, e, σ⟩, k1, k2, k3, k4, k5, k6, k7, k8, k9, k10, k11, k12⟩ := hf
  obtain ⟨w1, h1, w2, h2, w3, w4, w5, w6, w7, w8, w9, c5, c6⟩ := N.wraps
  simp only at k1 k2 k3 k4 k5 k6 k7 k8 k9 k10 k11 k12
  subst k2; subst k4
  unfold MergeTo at *
  rw [evL_code ext_slices_symMergeCmpFunc_api_SimEvent code_slices_symMergeCmpFunc_api_SimEvent]
  have g4 : (m : Int) > (mid : Int) := Int.ofNat_lt.2 g1
  have g5 : IntKind.i64.wrap ((nn : Int) - (b : Int)) = (lo : Int) := w64_sub g2 (by have := N.hnn; have := N.hmid; have := N.hb; have := N.hbn; have := N.hm; have := N.hbb; omega)
  have e1 : ¬ (start : Int) < (m : Int) := fun h => d1 (Int.ofNat_lt.1 h)
  have e2 : (m : Int) < (fin : Int) := Int.ofNat_lt.2 d2
  have e3 : (a : Int) < (start : Int) := Int.ofNat_lt.2 d3
  have e5 : ¬ (mid : Int) < (fin : Int) := fun h => d1 (c5.1 (Int.ofNat_lt.1 h))
  have e6 : (start : Int) < (mid : Int) := Int.ofNat_lt.2 (c6.2 d2)
  have e4 : ¬ (fin : Int) < (b : Int) := fun h => d4 (Int.ofNat_lt.1 h)
  have r1 := n1 (fun h => d1 h.1); subst r1
  have r2 := s2 d3 (c6.2 d2)
  have r3 := n3 (fun h => d1 (c5.1 h.1)); subst r3
  simp only [c_slices_symMergeCmpFunc_api_SimEvent, w1, w2, w3, w4, w5, w6, w7, w8, w9, h1, h2, g4, k1, k3, k5, k6, k7, k9, k10, k11, k12, e1, e3, e5, e6, g5, r2, evts_lo, Ev.runFunc, Ev.exec, Ev.evOpers, Ev.evOper, Ev.item_op, Ev.item_I, Ev.evOp, Ev.evs, Ev.Opnd.ev, Ev.Env.get, Ev.Env.set, Ev.Env.unset, Ev.look, Ev.argVars, Ev.bin_add, Ev.bin_sub, Ev.bin_eql, Ev.bin_lss, Ev.bin_gtr, Ev.resVals, Ev.resOf, Ev.kill, Ev.leave, Ev.settle, Ev.keep, Ev.varsLo, Ev.marksLo, Ev.storeLo, Ev.SObj.lo, Ev.lo_v, Ev.lo_tup, Ev.lo_sl, Ev.lo_fn, Ev.los_nil, ↓Ev.obind, ↓Ev.itL_itB, ↓reduceIte, List.length_cons, List.length_nil, List.take_succ_cons, List.take_nil, Nat.reduceAdd, Nat.reduceEqDiff, reduceCtorEq, decide_true, decide_false, Bool.and_self, Bool.false_eq_true, and_self, Nat.zero_add, Nat.lt_add_one, eq_self]
theorem merge_way_10101 (x1 x2 y1 y2 a m b mid nn lo hi p start fin : Nat) (D D2 D3 D4 : List Evt) (N : Nums n x1 x2 y1 y2 a m b mid nn lo hi p start fin) (g1 : mid < m) (g2 : nn = b + lo)
    (d1 : ¬ start < m) (d2 : m < fin) (d3 : ¬ a < start) (d4 : fin < b)
    (hf : Finds g cl n a m b mid nn lo mid p start D) (hS : Steps g cl n a m b mid start fin D D2 D3 D4) : MergeTo g cl n a m b D D4 := by
  obtain ⟨s1, n1, s2, n2, s3, n3⟩ := hS
  obtain ⟨⟨y, e, σ⟩, k1, k2, k3, k4, k5, k6, k7, k8, k9, k10, k11, k12⟩ := hf
  obtain ⟨w1, h1, w2, h2, w3, w4, w5, w6, w7, w8, w9, c5, c6⟩ := N.wraps
  simp only at k1 k2 k3 k4 k5 k6 k7 k8 k9 k10 k11 k12
  subst k2; subst k4
  unfold MergeTo at *
  rw [evL_code ext_slices_symMergeCmpFunc_api_SimEvent code_slices_symMergeCmpFunc_api_SimEvent]
  have g4 : (m : Int) > (mid : Int) := Int.ofNat_lt.2 g1
  have g5 : IntKind.i64.wrap ((nn : Int) - (b : Int)) = (lo : Int) := w64_sub g2 (by have := N.hnn; have := N.hmid; have := N.hb; have := N.hbn; have := N.hm; have := N.hbb; omega)
  have e1 : ¬ (start : Int) < (m : Int) := fun h => d1 (Int.ofNat_lt.1 h)
  have e2 : (m : Int) < (fin : Int) := Int.ofNat_lt.2 d2
  have e3 : ¬ (a : Int) < (start : Int) := fun h => d3 (Int.ofNat_lt.1 h)
  have e5 : ¬ (mid : Int) < (fin : Int) := fun h => d1 (c5.1 (Int.ofNat_lt.1 h))
  have e6 : (start : Int) < (mid : Int) := Int.ofNat_lt.2 (c6.2 d2)
  have e4 : (fin : Int) < (b : Int) := Int.ofNat_lt.2 d4
  have r1 := n1 (fun h => d1 h.1); subst r1
  have r2 := n2 (fun h => d3 h.1); subst r2
  have r3 := n3 (fun h => d1 (c5.1 h.1)); subst r3
  simp only [c_slices_symMergeCmpFunc_api_SimEvent, w1, w2, w3, w4, w5, w6, w7, w8, w9, h1, h2, g4, k1, k3, k6, k7, k10, k11, k12, e1, e3, e5, g5, evts_lo, Ev.runFunc, Ev.exec, Ev.evOpers, Ev.evOper, Ev.item_op, Ev.evOp, Ev.Opnd.ev, Ev.Env.get, Ev.Env.set, Ev.Env.unset, Ev.look, Ev.argVars, Ev.bin_add, Ev.bin_sub, Ev.bin_eql, Ev.bin_lss, Ev.bin_gtr, Ev.resVals, Ev.resOf, Ev.kill, Ev.leave, Ev.settle, Ev.keep, Ev.varsLo, Ev.marksLo, Ev.storeLo, Ev.SObj.lo, Ev.lo_v, Ev.lo_tup, Ev.lo_sl, Ev.lo_fn, Ev.los_nil, ↓Ev.obind, ↓Ev.itL_itB, ↓reduceIte, List.length_cons, List.length_nil, List.take_succ_cons, List.take_nil, Nat.reduceAdd, Nat.reduceEqDiff, reduceCtorEq, decide_true, decide_false, Bool.and_self, Bool.false_eq_true, and_self, Nat.zero_add, Nat.lt_add_one, eq_self]
theorem merge_way_10100 (x1 x2 y1 y2 a m b mid nn lo hi p start fin : Nat) (D D2 D3 D4 : List Evt) (N : Nums n x1 x2 y1 y2 a m b mid nn lo hi p start fin) (g1 : mid < m) (g2 : nn = b + lo)
    (d1 : ¬ start < m) (d2 : m < fin) (d3 : ¬ a < start) (d4 : ¬ fin < b)
    (hf : Finds g cl n a m b mid nn lo mid p start D) (hS : Steps g cl n a m b mid start fin D D2 D3 D4) : MergeTo g cl n a m b D D4 := by
  obtain ⟨s1, n1, s2, n2, s3, n3⟩ := hS
  obtain ⟨⟨y, e, σ⟩, k1, k2, k3, k4, k5, k6, k7, k8, k9, k10, k11, k12⟩ := hf
  obtain ⟨w1, h1, w2, h2, w3, w4, w5, w6, w7, w8, w9, c5, c6⟩ := N.wraps
  simp only at k1 k2 k3 k4 k5 k6 k7 k8 k9 k10 k11 k12
  subst k2; subst k4
  unfold MergeTo at *
  rw [evL_code ext_slices_symMergeCmpFunc_api_SimEvent code_slices_symMergeCmpFunc_api_SimEvent]
  have g4 : (m : Int) > (mid : Int) := Int.ofNat_lt.2 g1
  have g5 : IntKind.i64.wrap ((nn : Int) - (b : Int)) = (lo : Int) := w64_sub g2 (by have := N.hnn; have := N.hmid; have := N.hb; have := N.hbn; have := N.hm; have := N.hbb; omega)
  have e1 : ¬ (start : Int) < (m : Int) := fun h => d1 (Int.ofNat_lt.1 h)
  have e2 : (m : Int) < (fin : Int) := Int.ofNat_lt.2 d2
  have e3 : ¬ (a : Int) < (start : Int) := fun h => d3 (Int.ofNat_lt.1 h)
  have e5 : ¬ (mid : Int) < (fin : Int) := fun h => d1 (c5.1 (Int.ofNat_lt.1 h))
  have e6 : (start : Int) < (mid : Int) := Int.ofNat_lt.2 (c6.2 d2)
  have e4 : ¬ (fin : Int) < (b : Int) := fun h => d4 (Int.ofNat_lt.1 h)
  have r1 := n1 (fun h => d1 h.1); subst r1
  have r2 := n2 (fun h => d3 h.1); subst r2
  have r3 := n3 (fun h => d1 (c5.1 h.1)); subst r3
  simp only [c_slices_symMergeCmpFunc_api_SimEvent, w1, w2, w3, w4, w5, w6, w7, w8, w9, h1, h2, g4, k1, k3, k6, k7, k10, k11, k12, e1, e3, e5, g5, evts_lo, Ev.runFunc, Ev.exec, Ev.evOpers, Ev.evOper, Ev.item_op, Ev.evOp, Ev.Opnd.ev, Ev.Env.get, Ev.Env.set, Ev.Env.unset, Ev.look, Ev.argVars, Ev.bin_add, Ev.bin_sub, Ev.bin_eql, Ev.bin_lss, Ev.bin_gtr, Ev.resVals, Ev.resOf, Ev.kill, Ev.leave, Ev.settle, Ev.keep, Ev.varsLo, Ev.marksLo, Ev.storeLo, Ev.SObj.lo, Ev.lo_v, Ev.lo_tup, Ev.lo_sl, Ev.lo_fn, Ev.los_nil, ↓Ev.obind, ↓Ev.itL_itB, ↓reduceIte, List.length_cons, List.length_nil, List.take_succ_cons, List.take_nil, Nat.reduceAdd, Nat.reduceEqDiff, reduceCtorEq, decide_true, decide_false, Bool.and_self, Bool.false_eq_true, and_self, Nat.zero_add, Nat.lt_add_one, eq_self]
theorem merge_way_10011 (x1 x2 y1 y2 a m b mid nn lo hi p start fin : Nat) (D D2 D3 D4 : List Evt) (N : Nums n x1 x2 y1 y2 a m b mid nn lo hi p start fin) (g1 : mid < m) (g2 : nn = b + lo)
    (d1 : ¬ start < m) (d2 : ¬ m < fin) (d3 : a < start) (d4 : fin < b)
    (hf : Finds g cl n a m b mid nn lo mid p start D) (hS : Steps g cl n a m b mid start fin D D2 D3 D4) : MergeTo g cl n a m b D D4 := by
  obtain ⟨s1, n1, s2, n2, s3, n3⟩ := hS
  obtain ⟨⟨y, e, σ⟩, k1, k2, k3, k4, k5, k6, k7, k8, k9, k10, k11, k12⟩ := hf
  obtain ⟨w1, h1, w2, h2, w3, w4, w5, w6, w7, w8, w9, c5, c6⟩ := N.wraps
  simp only at k1 k2 k3 k4 k5 k6 k7 k8 k9 k10 k11 k12
  subst k2; subst k4
  unfold MergeTo at *
  rw [evL_code ext_slices_symMergeCmpFunc_api_SimEvent code_slices_symMergeCmpFunc_api_SimEvent]
  have g4 : (m : Int) > (mid : Int) := Int.ofNat_lt.2 g1
  have g5 : IntKind.i64.wrap ((nn : Int) - (b : Int)) = (lo : Int) := w64_sub g2 (by have := N.hnn; have := N.hmid; have := N.hb; have := N.hbn; have := N.hm; have := N.hbb; omega)
  have e1 : ¬ (start : Int) < (m : Int) := fun h => d1 (Int.ofNat_lt.1 h)
  have e2 : ¬ (m : Int) < (fin : Int) := fun h => d2 (Int.ofNat_lt.1 h)
  have e3 : (a : Int) < (start : Int) := Int.ofNat_lt.2 d3
  have e5 : ¬ (mid : Int) < (fin : Int) := fun h => d1 (c5.1 (Int.ofNat_lt.1 h))
  have e6 : ¬ (start : Int) < (mid : Int) := fun h => d2 (c6.1 (Int.ofNat_lt.1 h))
  have e4 : (fin : Int) < (b : Int) := Int.ofNat_lt.2 d4
  have r1 := n1 (fun h => d1 h.1); subst r1
  have r2 := n2 (fun h => d2 (c6.1 h.2)); subst r2
  have r3 := n3 (fun h => d1 (c5.1 h.1)); subst r3
  simp only [c_slices_symMergeCmpFunc_api_SimEvent, w1, w2, w3, w4, w5, w6, w7, w8, w9, h1, h2, g4, k1, k3, k6, k7, k10, k11, k12, e1, e3, e5, e6, g5, evts_lo, Ev.runFunc, Ev.exec, Ev.evOpers, Ev.evOper, Ev.item_op, Ev.evOp, Ev.Opnd.ev, Ev.Env.get, Ev.Env.set, Ev.Env.unset, Ev.look, Ev.argVars, Ev.bin_add, Ev.bin_sub, Ev.bin_eql, Ev.bin_lss, Ev.bin_gtr, Ev.resVals, Ev.resOf, Ev.kill, Ev.leave, Ev.settle, Ev.keep, Ev.varsLo, Ev.marksLo, Ev.storeLo, Ev.SObj.lo, Ev.lo_v, Ev.lo_tup, Ev.lo_sl, Ev.lo_fn, Ev.los_nil, ↓Ev.obind, ↓Ev.itL_itB, ↓reduceIte, List.length_cons, List.length_nil, List.take_succ_cons, List.take_nil, Nat.reduceAdd, Nat.reduceEqDiff, reduceCtorEq, decide_true, decide_false, Bool.and_self, Bool.false_eq_true, and_self, Nat.zero_add, Nat.lt_add_one, eq_self]
theorem merge_way_10010 (x1 x2 y1 y2 a m b mid nn lo hi p start fin : Nat) (D D2 D3 D4 : List Evt) (N : Nums n x1 x2 y1 y2 a m b mid nn lo hi p start fin) (g1 : mid < m) (g2 : nn = b + lo)
    (d1 : ¬ start < m) (d2 : ¬ m < fin) (d3 : a < start) (d4 : ¬ fin < b)
    (hf : Finds g cl n a m b mid nn lo mid p start D) (hS : Steps g cl n a m b mid start fin D D2 D3 D4) : MergeTo g cl n a m b D D4 := by
  obtain ⟨s1, n1, s2, n2, s3, n3⟩ := hS
  obtain ⟨⟨y, e, σ⟩, k1, k2, k3, k4, k5, k6, k7, k8, k9, k10, k11, k12⟩ := hf
  obtain ⟨w1, h1, w2, h2, w3, w4, w5, w6, w7, w8, w9, c5, c6⟩ := N.wraps
  simp only at k1 k2 k3 k4 k5 k6 k7 k8 k9 k10 k11 k12
  subst k2; subst k4
  unfold MergeTo at *
  rw [evL_code ext_slices_symMergeCmpFunc_api_SimEvent code_slices_symMergeCmpFunc_api_SimEvent]
  have g4 : (m : Int) > (mid : Int) := Int.ofNat_lt.2 g1
  have g5 : IntKind.i64.wrap ((nn : Int) - (b : Int)) = (lo : Int) := w64_sub g2 (by have := N.hnn; have := N.hmid; have := N.hb; have := N.hbn; have := N.hm; have := N.hbb; omega)
  have e1 : ¬ (start : Int) < (m : Int) := fun h => d1 (Int.ofNat_lt.1 h)
  have e2 : ¬ (m : Int) < (fin : Int) := fun h => d2 (Int.ofNat_lt.1 h)
  have e3 : (a : Int) < (start : Int) := Int.ofNat_lt.2 d3
  have e5 : ¬ (mid : Int) < (fin : Int) := fun h => d1 (c5.1 (Int.ofNat_lt.1 h))
  have e6 : ¬ (start : Int) < (mid : Int) := fun h => d2 (c6.1 (Int.ofNat_lt.1 h))
  have e4 : ¬ (fin : Int) < (b : Int) := fun h => d4 (Int.ofNat_lt.1 h)
  have r1 := n1 (fun h => d1 h.1); subst r1
  have r2 := n2 (fun h => d2 (c6.1 h.2)); subst r2
  have r3 := n3 (fun h => d1 (c5.1 h.1)); subst r3
  simp only [c_slices_symMergeCmpFunc_api_SimEvent, w1, w2, w3, w4, w5, w6, w7, w8, w9, h1, h2, g4, k1, k3, k6, k7, k10, k11, k12, e1, e3, e5, e6, g5, evts_lo, Ev.runFunc, Ev.exec, Ev.evOpers, Ev.evOper, Ev.item_op, Ev.evOp, Ev.Opnd.ev, Ev.Env.get, Ev.Env.set, Ev.Env.unset, Ev.look, Ev.argVars, Ev.bin_add, Ev.bin_sub, Ev.bin_eql, Ev.bin_lss, Ev.bin_gtr, Ev.resVals, Ev.resOf, Ev.kill, Ev.leave, Ev.settle, Ev.keep, Ev.varsLo, Ev.marksLo, Ev.storeLo, Ev.SObj.lo, Ev.lo_v, Ev.lo_tup, Ev.lo_sl, Ev.lo_fn, Ev.los_nil, ↓Ev.obind, ↓Ev.itL_itB, ↓reduceIte, List.length_cons, List.length_nil, List.take_succ_cons, List.take_nil, Nat.reduceAdd, Nat.reduceEqDiff, reduceCtorEq, decide_true, decide_false, Bool.and_self, Bool.false_eq_true, and_self, Nat.zero_add, Nat.lt_add_one, eq_self]
theorem merge_way_10001 (x1 x2 y1 y2 a m b mid nn lo hi p start fin : Nat) (D D2 D3 D4 : List Evt) (N : Nums n x1 x2 y1 y2 a m b mid nn lo hi p start fin) (g1 : mid < m) (g2 : nn = b + lo)
    (d1 : ¬ start < m) (d2 : ¬ m < fin) (d3 : ¬ a < start) (d4 : fin < b)
    (hf : Finds g cl n a m b mid nn lo mid p start D) (hS : Steps g cl n a m b mid start fin D D2 D3 D4) : MergeTo g cl n a m b D D4 := by
  obtain ⟨s1, n1, s2, n2, s3, n3⟩ := hS
  obtain ⟨⟨y, e, σ⟩, k1, k2, k3, k4, k5, k6, k7, k8, k9, k10, k11, k12⟩ := hf
  obtain ⟨w1, h1, w2, h2, w3, w4, w5, w6, w7, w8, w9, c5, c6⟩ := N.wraps
  simp only at k1 k2 k3 k4 k5 k6 k7 k8 k9 k10 k11 k12
  subst k2; subst k4
  unfold MergeTo at *
  rw [evL_code ext_slices_symMergeCmpFunc_api_SimEvent code_slices_symMergeCmpFunc_api_SimEvent]
  have g4 : (m : Int) > (mid : Int) := Int.ofNat_lt.2 g1
  have g5 : IntKind.i64.wrap ((nn : Int) - (b : Int)) = (lo : Int) := w64_sub g2 (by have := N.hnn; have := N.hmid; have := N.hb; have := N.hbn; have := N.hm; have := N.hbb; omega)
  have e1 : ¬ (start : Int) < (m : Int) := fun h => d1 (Int.ofNat_lt.1 h)
  have e2 : ¬ (m : Int) < (fin : Int) := fun h => d2 (Int.ofNat_lt.1 h)
  have e3 : ¬ (a : Int) < (start : Int) := fun h => d3 (Int.ofNat_lt.1 h)
  have e5 : ¬ (mid : Int) < (fin : Int) := fun h => d1 (c5.1 (Int.ofNat_lt.1 h))
  have e6 : ¬ (start : Int) < (mid : Int) := fun h => d2 (c6.1 (Int.ofNat_lt.1 h))
  have e4 : (fin : Int) < (b : Int) := Int.ofNat_lt.2 d4
  have r1 := n1 (fun h => d1 h.1); subst r1
  have r2 := n2 (fun h => d3 h.1); subst r2
  have r3 := n3 (fun h => d1 (c5.1 h.1)); subst r3
  simp only [c_slices_symMergeCmpFunc_api_SimEvent, w1, w2, w3, w4, w5, w6, w7, w8, w9, h1, h2, g4, k1, k3, k6, k7, k10, k11, k12, e1, e3, e5, g5, evts_lo, Ev.runFunc, Ev.exec, Ev.evOpers, Ev.evOper, Ev.item_op, Ev.evOp, Ev.Opnd.ev, Ev.Env.get, Ev.Env.set, Ev.Env.unset, Ev.look, Ev.argVars, Ev.bin_add, Ev.bin_sub, Ev.bin_eql, Ev.bin_lss, Ev.bin_gtr, Ev.resVals, Ev.resOf, Ev.kill, Ev.leave, Ev.settle, Ev.keep, Ev.varsLo, Ev.marksLo, Ev.storeLo, Ev.SObj.lo, Ev.lo_v, Ev.lo_tup, Ev.lo_sl, Ev.lo_fn, Ev.los_nil, ↓Ev.obind, ↓Ev.itL_itB, ↓reduceIte, List.length_cons, List.length_nil, List.take_succ_cons, List.take_nil, Nat.reduceAdd, Nat.reduceEqDiff, reduceCtorEq, decide_true, decide_false, Bool.and_self, Bool.false_eq_true, and_self, Nat.zero_add, Nat.lt_add_one, eq_self]
theorem merge_way_10000 (x1 x2 y1 y2 a m b mid nn lo hi p start fin : Nat) (D D2 D3 D4 : List Evt) (N : Nums n x1 x2 y1 y2 a m b mid nn lo hi p start fin) (g1 : mid < m) (g2 : nn = b + lo)
    (d1 : ¬ start < m) (d2 : ¬ m < fin) (d3 : ¬ a < start) (d4 : ¬ fin < b)
    (hf : Finds g cl n a m b mid nn lo mid p start D) (hS : Steps g cl n a m b mid start fin D D2 D3 D4) : MergeTo g cl n a m b D D4 := by
  obtain ⟨s1, n1, s2, n2, s3, n3⟩ := hS
  obtain ⟨⟨y, e, σ⟩, k1, k2, k3, k4, k5, k6, k7, k8, k9, k10, k11, k12⟩ := hf
  obtain ⟨w1, h1, w2, h2, w3, w4, w5, w6, w7, w8, w9, c5, c6⟩ := N.wraps
  simp only at k1 k2 k3 k4 k5 k6 k7 k8 k9 k10 k11 k12
  subst k2; subst k4
  unfold MergeTo at *
  rw [evL_code ext_slices_symMergeCmpFunc_api_SimEvent code_slices_symMergeCmpFunc_api_SimEvent]
  have g4 : (m : Int) > (mid : Int) := Int.ofNat_lt.2 g1
  have g5 : IntKind.i64.wrap ((nn : Int) - (b : Int)) = (lo : Int) := w64_sub g2 (by have := N.hnn; have := N.hmid; have := N.hb; have := N.hbn; have := N.hm; have := N.hbb; omega)
  have e1 : ¬ (start : Int) < (m : Int) := fun h => d1 (Int.ofNat_lt.1 h)
  have e2 : ¬ (m : Int) < (fin : Int) := fun h => d2 (Int.ofNat_lt.1 h)
  have e3 : ¬ (a : Int) < (start : Int) := fun h => d3 (Int.ofNat_lt.1 h)
  have e5 : ¬ (mid : Int) < (fin : Int) := fun h => d1 (c5.1 (Int.ofNat_lt.1 h))
  have e6 : ¬ (start : Int) < (mid : Int) := fun h => d2 (c6.1 (Int.ofNat_lt.1 h))
  have e4 : ¬ (fin : Int) < (b : Int) := fun h => d4 (Int.ofNat_lt.1 h)
  have r1 := n1 (fun h => d1 h.1); subst r1
  have r2 := n2 (fun h => d3 h.1); subst r2
  have r3 := n3 (fun h => d1 (c5.1 h.1)); subst r3
  simp only [c_slices_symMergeCmpFunc_api_SimEvent, w1, w2, w3, w4, w5, w6, w7, w8, w9, h1, h2, g4, k1, k3, k6, k7, k10, k11, k12, e1, e3, e5, g5, evts_lo, Ev.runFunc, Ev.exec, Ev.evOpers, Ev.evOper, Ev.item_op, Ev.evOp, Ev.Opnd.ev, Ev.Env.get, Ev.Env.set, Ev.Env.unset, Ev.look, Ev.argVars, Ev.bin_add, Ev.bin_sub, Ev.bin_eql, Ev.bin_lss, Ev.bin_gtr, Ev.resVals, Ev.resOf, Ev.kill, Ev.leave, Ev.settle, Ev.keep, Ev.varsLo, Ev.marksLo, Ev.storeLo, Ev.SObj.lo, Ev.lo_v, Ev.lo_tup, Ev.lo_sl, Ev.lo_fn, Ev.los_nil, ↓Ev.obind, ↓Ev.itL_itB, ↓reduceIte, List.length_cons, List.length_nil, List.take_succ_cons, List.take_nil, Nat.reduceAdd, Nat.reduceEqDiff, reduceCtorEq, decide_true, decide_false, Bool.and_self, Bool.false_eq_true, and_self, Nat.zero_add, Nat.lt_add_one, eq_self]
theorem merge_way_01111 (x1 x2 y1 y2 a m b mid nn lo hi p start fin : Nat) (D D2 D3 D4 : List Evt) (N : Nums n x1 x2 y1 y2 a m b mid nn lo hi p start fin) (g1 : ¬ mid < m)
    (d1 : start < m) (d2 : m < fin) (d3 : a < start) (d4 : fin < b)
    (hf : Finds g cl n a m b mid nn a m p start D) (hS : Steps g cl n a m b mid start fin D D2 D3 D4) : MergeTo g cl n a m b D D4 := by
  obtain ⟨s1, n1, s2, n2, s3, n3⟩ := hS
  obtain ⟨⟨y, e, σ⟩, k1, k2, k3, k4, k5, k6, k7, k8, k9, k10, k11, k12⟩ := hf
  obtain ⟨w1, h1, w2, h2, w3, w4, w5, w6, w7, w8, w9, c5, c6⟩ := N.wraps
  simp only at k1 k2 k3 k4 k5 k6 k7 k8 k9 k10 k11 k12
  subst k2; subst k4
  unfold MergeTo at *
  rw [evL_code ext_slices_symMergeCmpFunc_api_SimEvent code_slices_symMergeCmpFunc_api_SimEvent]
  have g4 : ¬ (m : Int) > (mid : Int) := fun h => g1 (Int.ofNat_lt.1 h)
  have e1 : (start : Int) < (m : Int) := Int.ofNat_lt.2 d1
  have e2 : (m : Int) < (fin : Int) := Int.ofNat_lt.2 d2
  have e3 : (a : Int) < (start : Int) := Int.ofNat_lt.2 d3
  have e5 : (mid : Int) < (fin : Int) := Int.ofNat_lt.2 (c5.2 d1)
  have e6 : (start : Int) < (mid : Int) := Int.ofNat_lt.2 (c6.2 d2)
  have e4 : (fin : Int) < (b : Int) := Int.ofNat_lt.2 d4
  have r1 := s1 d1 d2
  have r2 := s2 d3 (c6.2 d2)
  have r3 := s3 (c5.2 d1) d4
  simp only [c_slices_symMergeCmpFunc_api_SimEvent, w1, w2, w3, w4, w5, w6, w7, w8, w9, h1, h2, g4, k1, k3, k5, k6, k7, k8, k9, k10, k11, k12, e1, e2, e3, e5, e6, r1, r2, r3, e4, evts_lo, Ev.runFunc, Ev.exec, Ev.evOpers, Ev.evOper, Ev.item_op, Ev.item_I, Ev.evOp, Ev.evs, Ev.Opnd.ev, Ev.Env.get, Ev.Env.set, Ev.look, Ev.argVars, Ev.bin_add, Ev.bin_sub, Ev.bin_eql, Ev.bin_lss, Ev.bin_gtr, Ev.resVals, Ev.resOf, Ev.kill, Ev.leave, Ev.settle, Ev.keep, Ev.varsLo, Ev.marksLo, Ev.storeLo, Ev.SObj.lo, Ev.lo_v, Ev.lo_tup, Ev.lo_sl, Ev.lo_fn, Ev.los_nil, ↓Ev.obind, ↓Ev.itL_itB, ↓reduceIte, List.length_cons, List.length_nil, List.take_succ_cons, List.take_nil, Nat.reduceAdd, Nat.reduceEqDiff, reduceCtorEq, decide_true, decide_false, Bool.and_self, Bool.false_eq_true, and_self, Nat.zero_add, Nat.lt_add_one, eq_self]
theorem merge_way_01110 (x1 x2 y1 y2 a m b mid nn lo hi p start fin : Nat) (D D2 D3 D4 : List Evt) (N : Nums n x1 x2 y1 y2 a m b mid nn lo hi p start fin) (g1 : ¬ mid < m)
    (d1 : start < m) (d2 : m < fin) (d3 : a < start) (d4 : ¬ fin < b)
    (hf : Finds g cl n a m b mid nn a m p start D) (hS : Steps g cl n a m b mid start fin D D2 D3 D4) : MergeTo g cl n a m b D D4 := by
  obtain ⟨s1, n1, s2, n2, s3, n3⟩ := hS
  obtain ⟨⟨y, e, σ⟩, k1, k2, k3, k4, k5, k6, k7, k8, k9, k10, k11, k12⟩ := hf
  obtain ⟨w1, h1, w2, h2, w3, w4, w5, w6, w7, w8, w9, c5, c6⟩ := N.wraps
  simp only at k1 k2 k3 k4 k5 k6 k7 k8 k9 k10 k11 k12
  subst k2; subst k4
  unfold MergeTo at *
  rw [evL_code ext_slices_symMergeCmpFunc_api_SimEvent code_slices_symMergeCmpFunc_api_SimEvent]
  have g4 : ¬ (m : Int) > (mid : Int) := fun h => g1 (Int.ofNat_lt.1 h)
  have e1 : (start : Int) < (m : Int) := Int.ofNat_lt.2 d1
  have e2 : (m : Int) < (fin : Int) := Int.ofNat_lt.2 d2
  have e3 : (a : Int) < (start : Int) := Int.ofNat_lt.2 d3
  have e5 : (mid : Int) < (fin : Int) := Int.ofNat_lt.2 (c5.2 d1)
  have e6 : (start : Int) < (mid : Int) := Int.ofNat_lt.2 (c6.2 d2)
  have e4 : ¬ (fin : Int) < (b : Int) := fun h => d4 (Int.ofNat_lt.1 h)
  have r1 := s1 d1 d2
  have r2 := s2 d3 (c6.2 d2)
  have r3 := n3 (fun h => d4 h.2); subst r3
  simp only [c_slices_symMergeCmpFunc_api_SimEvent, w1, w2, w3, w4, w5, w6, w7, w8, w9, h1, h2, g4, k1, k3, k5, k6, k7, k8, k9, k10, k11, k12, e1, e2, e3, e5, e6, r1, r2, e4, evts_lo, Ev.runFunc, Ev.exec, Ev.evOpers, Ev.evOper, Ev.item_op, Ev.item_I, Ev.evOp, Ev.evs, Ev.Opnd.ev, Ev.Env.get, Ev.Env.set, Ev.look, Ev.argVars, Ev.bin_add, Ev.bin_sub, Ev.bin_eql, Ev.bin_lss, Ev.bin_gtr, Ev.resVals, Ev.resOf, Ev.kill, Ev.leave, Ev.settle, Ev.keep, Ev.varsLo, Ev.marksLo, Ev.storeLo, Ev.SObj.lo, Ev.lo_v, Ev.lo_tup, Ev.lo_sl, Ev.lo_fn, Ev.los_nil, ↓Ev.obind, ↓Ev.itL_itB, ↓reduceIte, List.length_cons, List.length_nil, List.take_succ_cons, List.take_nil, Nat.reduceAdd, Nat.reduceEqDiff, reduceCtorEq, decide_true, decide_false, Bool.and_self, Bool.false_eq_true, and_self, Nat.zero_add, Nat.lt_add_one, eq_self]
theorem merge_way_01101 (x1 x2 y1 y2 a m b mid nn lo hi p start fin : Nat) (D D2 D3 D4 : List Evt) (N : Nums n x1 x2 y1 y2 a m b mid nn lo hi p start fin) (g1 : ¬ mid < m)
    (d1 : start < m) (d2 : m < fin) (d3 : ¬ a < start) (d4 : fin < b)
    (hf : Finds g cl n a m b mid nn a m p start D) (hS : Steps g cl n a m b mid start fin D D2 D3 D4) : MergeTo g cl n a m b D D4 := by
  obtain ⟨s1, n1, s2, n2, s3, n3⟩ := hS
  obtain ⟨⟨y, e, σ⟩, k1, k2, k3, k4, k5, k6, k7, k8, k9, k10, k11, k12⟩ := hf
  obtain ⟨w1, h1, w2, h2, w3, w4, w5, w6, w7, w8, w9, c5, c6⟩ := N.wraps
  simp only at k1 k2 k3 k4 k5 k6 k7 k8 k9 k10 k11 k12
  subst k2; subst k4
  unfold MergeTo at *
  rw [evL_code ext_slices_symMergeCmpFunc_api_SimEvent code_slices_symMergeCmpFunc_api_SimEvent]
  have g4 : ¬ (m : Int) > (mid : Int) := fun h => g1 (Int.ofNat_lt.1 h)
  have e1 : (start : Int) < (m : Int) := Int.ofNat_lt.2 d1
  have e2 : (m : Int) < (fin : Int) := Int.ofNat_lt.2 d2
  have e3 : ¬ (a : Int) < (start : Int) := fun h => d3 (Int.ofNat_lt.1 h)
  have e5 : (mid : Int) < (fin : Int) := Int.ofNat_lt.2 (c5.2 d1)
  have e6 : (start : Int) < (mid : Int) := Int.ofNat_lt.2 (c6.2 d2)
  have e4 : (fin : Int) < (b : Int) := Int.ofNat_lt.2 d4
  have r1 := s1 d1 d2
  have r2 := n2 (fun h => d3 h.1); subst r2
  have r3 := s3 (c5.2 d1) d4
  simp only [c_slices_symMergeCmpFunc_api_SimEvent, w1, w2, w3, w4, w5, w6, w7, w8, w9, h1, h2, g4, k1, k3, k5, k6, k7, k8, k9, k10, k11, k12, e1, e2, e3, e5, r1, r3, e4, evts_lo, Ev.runFunc, Ev.exec, Ev.evOpers, Ev.evOper, Ev.item_op, Ev.item_I, Ev.evOp, Ev.evs, Ev.Opnd.ev, Ev.Env.get, Ev.Env.set, Ev.Env.unset, Ev.look, Ev.argVars, Ev.bin_add, Ev.bin_sub, Ev.bin_eql, Ev.bin_lss, Ev.bin_gtr, Ev.resVals, Ev.resOf, Ev.kill, Ev.leave, Ev.settle, Ev.keep, Ev.varsLo, Ev.marksLo, Ev.storeLo, Ev.SObj.lo, Ev.lo_v, Ev.lo_tup, Ev.lo_sl, Ev.lo_fn, Ev.los_nil, ↓Ev.obind, ↓Ev.itL_itB, ↓reduceIte, List.length_cons, List.length_nil, List.take_succ_cons, List.take_nil, Nat.reduceAdd, Nat.reduceEqDiff, reduceCtorEq, decide_true, decide_false, Bool.and_self, Bool.false_eq_true, and_self, Nat.zero_add, Nat.lt_add_one, eq_self]
theorem merge_way_01100 (x1 x2 y1 y2 a m b mid nn lo hi p start fin : Nat) (D D2 D3 D4 : List Evt) (N : Nums n x1 x2 y1 y2 a m b mid nn lo hi p start fin) (g1 : ¬ mid < m)
    (d1 : start < m) (d2 : m < fin) (d3 : ¬ a < start) (d4 : ¬ fin < b)
    (hf : Finds g cl n a m b mid nn a m p start D) (hS : Steps g cl n a m b mid start fin D D2 D3 D4) : MergeTo g cl n a m b D D4 := by
  obtain ⟨s1, n1, s2, n2, s3, n3⟩ := hS
  obtain ⟨⟨y, e, σ⟩, k1, k2, k3, k4, k5, k6, k7, k8, k9, k10, k11, k12⟩ := hf
  obtain ⟨w1, h1, w2, h2, w3, w4, w5, w6, w7, w8, w9, c5, c6⟩ := N.wraps
  simp only at k1 k2 k3 k4 k5 k6 k7 k8 k9 k10 k11 k12
  subst k2; subst k4
  unfold MergeTo at *
  rw [evL_code ext_slices_symMergeCmpFunc_api_SimEvent code_slices_symMergeCmpFunc_api_SimEvent]
  have g4 : ¬ (m : Int) > (mid : Int) := fun h => g1 (Int.ofNat_lt.1 h)
  have e1 : (start : Int) < (m : Int) := Int.ofNat_lt.2 d1
  have e2 : (m : Int) < (fin : Int) := Int.ofNat_lt.2 d2
  have e3 : ¬ (a : Int) < (start : Int) := fun h => d3 (Int.ofNat_lt.1 h)
  have e5 : (mid : Int) < (fin : Int) := Int.ofNat_lt.2 (c5.2 d1)
  have e6 : (start : Int) < (mid : Int) := Int.ofNat_lt.2 (c6.2 d2)
  have e4 : ¬ (fin : Int) < (b : Int) := fun h => d4 (Int.ofNat_lt.1 h)
  have r1 := s1 d1 d2
  have r2 := n2 (fun h => d3 h.1); subst r2
  have r3 := n3 (fun h => d4 h.2); subst r3
  simp only [c_slices_symMergeCmpFunc_api_SimEvent, w1, w2, w3, w4, w5, w6, w7, w8, w9, h1, h2, g4, k1, k3, k5, k6, k7, k8, k9, k10, k11, k12, e1, e2, e3, e5, r1, e4, evts_lo, Ev.runFunc, Ev.exec, Ev.evOpers, Ev.evOper, Ev.item_op, Ev.item_I, Ev.evOp, Ev.evs, Ev.Opnd.ev, Ev.Env.get, Ev.Env.set, Ev.Env.unset, Ev.look, Ev.argVars, Ev.bin_add, Ev.bin_sub, Ev.bin_eql, Ev.bin_lss, Ev.bin_gtr, Ev.resVals, Ev.resOf, Ev.kill, Ev.leave, Ev.settle, Ev.keep, Ev.varsLo, Ev.marksLo, Ev.storeLo, Ev.SObj.lo, Ev.lo_v, Ev.lo_tup, Ev.lo_sl, Ev.lo_fn, Ev.los_nil, ↓Ev.obind, ↓Ev.itL_itB, ↓reduceIte, List.length_cons, List.length_nil, List.take_succ_cons, List.take_nil, Nat.reduceAdd, Nat.reduceEqDiff, reduceCtorEq, decide_true, decide_false, Bool.and_self, Bool.false_eq_true, and_self, Nat.zero_add, Nat.lt_add_one, eq_self]
theorem merge_way_01011 (x1 x2 y1 y2 a m b mid nn lo hi p start fin : Nat) (D D2 D3 D4 : List Evt) (N : Nums n x1 x2 y1 y2 a m b mid nn lo hi p start fin) (g1 : ¬ mid < m)
    (d1 : start < m) (d2 : ¬ m < fin) (d3 : a < start) (d4 : fin < b)
    (hf : Finds g cl n a m b mid nn a m p start D) (hS : Steps g cl n a m b mid start fin D D2 D3 D4) : MergeTo g cl n a m b D D4 := by
  obtain ⟨s1, n1, s2, n2, s3, n3⟩ := hS
  obtain ⟨⟨y, e, σ⟩, k1, k2, k3, k4, k5, k6, k7, k8, k9, k10, k11, k12⟩ := hf
  obtain ⟨w1, h1, w2, h2, w3, w4, w5, w6, w7, w8, w9, c5, c6⟩ := N.wraps
  simp only at k1 k2 k3 k4 k5 k6 k7 k8 k9 k10 k11 k12
  subst k2; subst k4
  unfold MergeTo at *
  rw [evL_code ext_slices_symMergeCmpFunc_api_SimEvent code_slices_symMergeCmpFunc_api_SimEvent]
  have g4 : ¬ (m : Int) > (mid : Int) := fun h => g1 (Int.ofNat_lt.1 h)
  have e1 : (start : Int) < (m : Int) := Int.ofNat_lt.2 d1
  have e2 : ¬ (m : Int) < (fin : Int) := fun h => d2 (Int.ofNat_lt.1 h)
  have e3 : (a : Int) < (start : Int) := Int.ofNat_lt.2 d3
  have e5 : (mid : Int) < (fin : Int) := Int.ofNat_lt.2 (c5.2 d1)
  have e6 : ¬ (start : Int) < (mid : Int) := fun h => d2 (c6.1 (Int.ofNat_lt.1 h))
  have e4 : (fin : Int) < (b : Int) := Int.ofNat_lt.2 d4
  have r1 := n1 (fun h => d2 h.2); subst r1
  have r2 := n2 (fun h => d2 (c6.1 h.2)); subst r2
  have r3 := s3 (c5.2 d1) d4
  simp only [c_slices_symMergeCmpFunc_api_SimEvent, w1, w2, w3, w4, w5, w6, w7, w8, w9, h1, h2, g4, k1, k3, k5, k6, k7, k8, k9, k10, k11, k12, e1, e2, e3, e5, e6, r3, e4, evts_lo, Ev.runFunc, Ev.exec, Ev.evOpers, Ev.evOper, Ev.item_op, Ev.item_I, Ev.evOp, Ev.evs, Ev.Opnd.ev, Ev.Env.get, Ev.Env.set, Ev.look, Ev.argVars, Ev.bin_add, Ev.bin_sub, Ev.bin_eql, Ev.bin_lss, Ev.bin_gtr, Ev.resVals, Ev.resOf, Ev.kill, Ev.leave, Ev.settle, Ev.keep, Ev.varsLo, Ev.marksLo, Ev.storeLo, Ev.SObj.lo, Ev.lo_v, Ev.lo_tup, Ev.lo_sl, Ev.lo_fn, Ev.los_nil, ↓Ev.obind, ↓Ev.itL_itB, ↓reduceIte, List.length_cons, List.length_nil, List.take_succ_cons, List.take_nil, Nat.reduceAdd, Nat.reduceEqDiff, reduceCtorEq, decide_true, decide_false, Bool.and_self, Bool.false_eq_true, and_self, Nat.zero_add, Nat.lt_add_one, eq_self]
theorem merge_way_01010 (x1 x2 y1 y2 a m b mid nn lo hi p start fin : Nat) (D D2 D3 D4 : List Evt) (N : Nums n x1 x2 y1 y2 a m b mid nn lo hi p start fin) (g1 : ¬ mid < m)
    (d1 : start < m) (d2 : ¬ m < fin) (d3 : a < start) (d4 : ¬ fin < b)
    (hf : Finds g cl n a m b mid nn a m p start D) (hS : Steps g cl n a m b mid start fin D D2 D3 D4) : MergeTo g cl n a m b D D4 := by
  obtain ⟨s1, n1, s2, n2, s3, n3⟩ := hS
  obtain ⟨⟨y, e, σ⟩, k1, k2, k3, k4, k5, k6, k7, k8, k9, k10, k11, k12⟩ := hf
  obtain ⟨w1, h1, w2, h2, w3, w4, w5, w6, w7, w8, w9, c5, c6⟩ := N.wraps
  simp only at k1 k2 k3 k4 k5 k6 k7 k8 k9 k10 k11 k12
  subst k2; subst k4
  unfold MergeTo at *
  rw [evL_code ext_slices_symMergeCmpFunc_api_SimEvent code_slices_symMergeCmpFunc_api_SimEvent]
  have g4 : ¬ (m : Int) > (mid : Int) := fun h => g1 (Int.ofNat_lt.1 h)
  have e1 : (start : Int) < (m : Int) := Int.ofNat_lt.2 d1
  have e2 : ¬ (m : Int) < (fin : Int) := fun h => d2 (Int.ofNat_lt.1 h)
  have e3 : (a : Int) < (start : Int) := Int.ofNat_lt.2 d3
  have e5 : (mid : Int) < (fin : Int) := Int.ofNat_lt.2 (c5.2 d1)
  have e6 : ¬ (start : Int) < (mid : Int) := fun h => d2 (c6.1 (Int.ofNat_lt.1 h))
  have e4 : ¬ (fin : Int) < (b : Int) := fun h => d4 (Int.ofNat_lt.1 h)
  have r1 := n1 (fun h => d2 h.2); subst r1
  have r2 := n2 (fun h => d2 (c6.1 h.2)); subst r2
  have r3 := n3 (fun h => d4 h.2); subst r3
  simp only [c_slices_symMergeCmpFunc_api_SimEvent, w1, w2, w3, w4, w5, w6, w7, w8, w9, h1, h2, g4, k1, k3, k6, k7, k8, k10, k11, k12, e1, e2, e3, e5, e6, e4, evts_lo, Ev.runFunc, Ev.exec, Ev.evOpers, Ev.evOper, Ev.item_op, Ev.evOp, Ev.Opnd.ev, Ev.Env.get, Ev.Env.set, Ev.look, Ev.argVars, Ev.bin_add, Ev.bin_sub, Ev.bin_eql, Ev.bin_lss, Ev.bin_gtr, Ev.resVals, Ev.resOf, Ev.kill, Ev.leave, Ev.settle, Ev.keep, Ev.varsLo, Ev.marksLo, Ev.storeLo, Ev.SObj.lo, Ev.lo_v, Ev.lo_tup, Ev.lo_sl, Ev.lo_fn, Ev.los_nil, ↓Ev.obind, ↓Ev.itL_itB, ↓reduceIte, List.length_cons, List.length_nil, List.take_succ_cons, List.take_nil, Nat.reduceAdd, Nat.reduceEqDiff, reduceCtorEq, decide_true, decide_false, Bool.and_self, Bool.false_eq_true, and_self, Nat.zero_add, Nat.lt_add_one, eq_self]
theorem merge_way_01001 (x1 x2 y1 y2 a m b mid nn lo hi p start fin : Nat) (D D2 D3 D4 : List Evt) (N : Nums n x1 x2 y1 y2 a m b mid nn lo hi p start fin) (g1 : ¬ mid < m)
    (d1 : start < m) (d2 : ¬ m < fin) (d3 : ¬ a < start) (d4 : fin < b)
    (hf : Finds g cl n a m b mid nn a m p start D) (hS : Steps g cl n a m b mid start fin D D2 D3 D4) : MergeTo g cl n a m b D D4 := by
  obtain ⟨s1, n1, s2, n2, s3, n3⟩ := hS
  obtain ⟨⟨y, e, σ⟩, k1, k2, k3, k4, k5, k6, k7, k8, k9, k10, k11, k12⟩ := hf
  obtain ⟨w1, h1, w2, h2, w3, w4, w5, w6, w7, w8, w9, c5, c6⟩ := N.wraps
  simp only at k1 k2 k3 k4 k5 k6 k7 k8 k9 k10 k11 k12
  subst k2; subst k4
  unfold MergeTo at *
  rw [evL_code ext_slices_symMergeCmpFunc_api_SimEvent code_slices_symMergeCmpFunc_api_SimEvent]
  have g4 : ¬ (m : Int) > (mid : Int) := fun h => g1 (Int.ofNat_lt.1 h)
  have e1 : (start : Int) < (m : Int) := Int.ofNat_lt.2 d1
  have e2 : ¬ (m : Int) < (fin : Int) := fun h => d2 (Int.ofNat_lt.1 h)
  have e3 : ¬ (a : Int) < (start : Int) := fun h => d3 (Int.ofNat_lt.1 h)
  have e5 : (mid : Int) < (fin : Int) := Int.ofNat_lt.2 (c5.2 d1)
  have e6 : ¬ (start : Int) < (mid : Int) := fun h => d2 (c6.1 (Int.ofNat_lt.1 h))
  have e4 : (fin : Int) < (b : Int) := Int.ofNat_lt.2 d4
  have r1 := n1 (fun h => d2 h.2); subst r1
  have r2 := n2 (fun h => d3 h.1); subst r2
  have r3 := s3 (c5.2 d1) d4
  simp only [c_slices_symMergeCmpFunc_api_SimEvent, w1, w2, w3, w4, w5, w6, w7, w8, w9, h1, h2, g4, k1, k3, k5, k6, k7, k8, k9, k10, k11, k12, e1, e2, e3, e5, r3, e4, evts_lo, Ev.runFunc, Ev.exec, Ev.evOpers, Ev.evOper, Ev.item_op, Ev.item_I, Ev.evOp, Ev.evs, Ev.Opnd.ev, Ev.Env.get, Ev.Env.set, Ev.Env.unset, Ev.look, Ev.argVars, Ev.bin_add, Ev.bin_sub, Ev.bin_eql, Ev.bin_lss, Ev.bin_gtr, Ev.resVals, Ev.resOf, Ev.kill, Ev.leave, Ev.settle, Ev.keep, Ev.varsLo, Ev.marksLo, Ev.storeLo, Ev.SObj.lo, Ev.lo_v, Ev.lo_tup, Ev.lo_sl, Ev.lo_fn, Ev.los_nil, ↓Ev.obind, ↓Ev.itL_itB, ↓reduceIte, List.length_cons, List.length_nil, List.take_succ_cons, List.take_nil, Nat.reduceAdd, Nat.reduceEqDiff, reduceCtorEq, decide_true, decide_false, Bool.and_self, Bool.false_eq_true, and_self, Nat.zero_add, Nat.lt_add_one, eq_self]
theorem merge_way_01000 (x1 x2 y1 y2 a m b mid nn lo hi p start fin : Nat) (D D2 D3 D4 : List Evt) (N : Nums n x1 x2 y1 y2 a m b mid nn lo hi p start fin) (g1 : ¬ mid < m)
    (d1 : start < m) (d2 : ¬ m < fin) (d3 : ¬ a < start) (d4 : ¬ fin < b)
    (hf : Finds g cl n a m b mid nn a m p start D) (hS : Steps g cl n a m b mid start fin D D2 D3 D4) : MergeTo g cl n a m b D D4 := by
  obtain ⟨s1, n1, s2, n2, s3, n3⟩ := hS
  obtain ⟨⟨y, e, σ⟩, k1, k2, k3, k4, k5, k6, k7, k8, k9, k10, k11, k12⟩ := hf
  obtain ⟨w1, h1, w2, h2, w3, w4, w5, w6, w7, w8, w9, c5, c6⟩ := N.wraps
  simp only at k1 k2 k3 k4 k5 k6 k7 k8 k9 k10 k11 k12
  subst k2; subst k4
  unfold MergeTo at *
  rw [evL_code ext_slices_symMergeCmpFunc_api_SimEvent code_slices_symMergeCmpFunc_api_SimEvent]
  have g4 : ¬ (m : Int) > (mid : Int) := fun h => g1 (Int.ofNat_lt.1 h)
  have e1 : (start : Int) < (m : Int) := Int.ofNat_lt.2 d1
  have e2 : ¬ (m : Int) < (fin : Int) := fun h => d2 (Int.ofNat_lt.1 h)
  have e3 : ¬ (a : Int) < (start : Int) := fun h => d3 (Int.ofNat_lt.1 h)
  have e5 : (mid : Int) < (fin : Int) := Int.ofNat_lt.2 (c5.2 d1)
  have e6 : ¬ (start : Int) < (mid : Int) := fun h => d2 (c6.1 (Int.ofNat_lt.1 h))
  have e4 : ¬ (fin : Int) < (b : Int) := fun h => d4 (Int.ofNat_lt.1 h)
  have r1 := n1 (fun h => d2 h.2); subst r1
  have r2 := n2 (fun h => d3 h.1); subst r2
  have r3 := n3 (fun h => d4 h.2); subst r3
  simp only [c_slices_symMergeCmpFunc_api_SimEvent, w1, w2, w3, w4, w5, w6, w7, w8, w9, h1, h2, g4, k1, k3, k6, k7, k8, k10, k11, k12, e1, e2, e3, e5, e4, evts_lo, Ev.runFunc, Ev.exec, Ev.evOpers, Ev.evOper, Ev.item_op, Ev.evOp, Ev.Opnd.ev, Ev.Env.get, Ev.Env.set, Ev.Env.unset, Ev.look, Ev.argVars, Ev.bin_add, Ev.bin_sub, Ev.bin_eql, Ev.bin_lss, Ev.bin_gtr, Ev.resVals, Ev.resOf, Ev.kill, Ev.leave, Ev.settle, Ev.keep, Ev.varsLo, Ev.marksLo, Ev.storeLo, Ev.SObj.lo, Ev.lo_v, Ev.lo_tup, Ev.lo_sl, Ev.lo_fn, Ev.los_nil, ↓Ev.obind, ↓Ev.itL_itB, ↓reduceIte, List.length_cons, List.length_nil, List.take_succ_cons, List.take_nil, Nat.reduceAdd, Nat.reduceEqDiff, reduceCtorEq, decide_true, decide_false, Bool.and_self, Bool.false_eq_true, and_self, Nat.zero_add, Nat.lt_add_one, eq_self]
theorem merge_way_00111 (x1 x2 y1 y2 a m b mid nn lo hi p start fin : Nat) (D D2 D3 D4 : List Evt) (N : Nums n x1 x2 y1 y2 a m b mid nn lo hi p start fin) (g1 : ¬ mid < m)
    (d1 : ¬ start < m) (d2 : m < fin) (d3 : a < start) (d4 : fin < b)
    (hf : Finds g cl n a m b mid nn a m p start D) (hS : Steps g cl n a m b mid start fin D D2 D3 D4) : MergeTo g cl n a m b D D4 := by
  obtain ⟨s1, n1, s2, n2, s3, n3⟩ := hS
  obtain ⟨⟨y, e, σ⟩, k1, k2, k3, k4, k5, k6, k7, k8, k9, k10, k11, k12⟩ := hf
  obtain ⟨w1, h1, w2, h2, w3, w4, w5, w6, w7, w8, w9, c5, c6⟩ := N.wraps
  simp only at k1 k2 k3 k4 k5 k6 k7 k8 k9 k10 k11 k12
  subst k2; subst k4
  unfold MergeTo at *
  rw [evL_code ext_slices_symMergeCmpFunc_api_SimEvent code_slices_symMergeCmpFunc_api_SimEvent]
  have g4 : ¬ (m : Int) > (mid : Int) := fun h => g1 (Int.ofNat_lt.1 h)
  have e1 : ¬ (start : Int) < (m : Int) := fun h => d1 (Int.ofNat_lt.1 h)
  have e2 : (m : Int) < (fin : Int) := Int.ofNat_lt.2 d2
  have e3 : (a : Int) < (start : Int) := Int.ofNat_lt.2 d3
  have e5 : ¬ (mid : Int) < (fin : Int) := fun h => d1 (c5.1 (Int.ofNat_lt.1 h))
  have e6 : (start : Int) < (mid : Int) := Int.ofNat_lt.2 (c6.2 d2)
  have e4 : (fin : Int) < (b : Int) := Int.ofNat_lt.2 d4
  have r1 := n1 (fun h => d1 h.1); subst r1
  have r2 := s2 d3 (c6.2 d2)
  have r3 := n3 (fun h => d1 (c5.1 h.1)); subst r3
  simp only [c_slices_symMergeCmpFunc_api_SimEvent, w1, w2, w3, w4, w5, w6, w7, w8, w9, h1, h2, g4, k1, k3, k5, k6, k7, k9, k10, k11, k12, e1, e3, e5, e6, r2, evts_lo, Ev.runFunc, Ev.exec, Ev.evOpers, Ev.evOper, Ev.item_op, Ev.item_I, Ev.evOp, Ev.evs, Ev.Opnd.ev, Ev.Env.get, Ev.Env.set, Ev.Env.unset, Ev.look, Ev.argVars, Ev.bin_add, Ev.bin_sub, Ev.bin_eql, Ev.bin_lss, Ev.bin_gtr, Ev.resVals, Ev.resOf, Ev.kill, Ev.leave, Ev.settle, Ev.keep, Ev.varsLo, Ev.marksLo, Ev.storeLo, Ev.SObj.lo, Ev.lo_v, Ev.lo_tup, Ev.lo_sl, Ev.lo_fn, Ev.los_nil, ↓Ev.obind, ↓Ev.itL_itB, ↓reduceIte, List.length_cons, List.length_nil, List.take_succ_cons, List.take_nil, Nat.reduceAdd, Nat.reduceEqDiff, reduceCtorEq, decide_true, decide_false, Bool.and_self, Bool.false_eq_true, and_self, Nat.zero_add, Nat.lt_add_one, eq_self]
theorem merge_way_00110 (x1 x2 y1 y2 a m b mid nn lo hi p start fin : Nat) (D D2 D3 D4 : List Evt) (N : Nums n x1 x2 y1 y2 a m b mid nn lo hi p start fin) (g1 : ¬ mid < m)
    (d1 : ¬ start < m) (d2 : m < fin) (d3 : a < start) (d4 : ¬ fin < b)
    (hf : Finds g cl n a m b mid nn a m p start D) (hS : Steps g cl n a m b mid start fin D D2 D3 D4) : MergeTo g cl n a m b D D4 := by
  obtain ⟨s1, n1, s2, n2, s3, n3⟩ := hS
  obtain ⟨⟨y, e, σ⟩, k1, k2, k3, k4, k5, k6, k7, k8, k9, k10, k11, k12⟩ := hf
  obtain ⟨w1, h1, w2, h2, w3, w4, w5, w6, w7, w8, w9, c5, c6⟩ := N.wraps
  simp only at k1 k2 k3 k4 k5 k6 k7 k8 k9 k10 k11 k12
  subst k2; subst k4
  unfold MergeTo at *
  rw [evL_code ext_slices_symMergeCmpFunc_api_SimEvent code_slices_symMergeCmpFunc_api_SimEvent]
  have g4 : ¬ (m : Int) > (mid : Int) := fun h => g1 (Int.ofNat_lt.1 h)
  have e1 : ¬ (start : Int) < (m : Int) := fun h => d1 (Int.ofNat_lt.1 h)
  have e2 : (m : Int) < (fin : Int) := Int.ofNat_lt.2 d2
  have e3 : (a : Int) < (start : Int) := Int.ofNat_lt.2 d3
  have e5 : ¬ (mid : Int) < (fin : Int) := fun h => d1 (c5.1 (Int.ofNat_lt.1 h))
  have e6 : (start : Int) < (mid : Int) := Int.ofNat_lt.2 (c6.2 d2)
  have e4 : ¬ (fin : Int) < (b : Int) := fun h => d4 (Int.ofNat_lt.1 h)
  have r1 := n1 (fun h => d1 h.1); subst r1
  have r2 := s2 d3 (c6.2 d2)
  have r3 := n3 (fun h => d1 (c5.1 h.1)); subst r3
  simp only [c_slices_symMergeCmpFunc_api_SimEvent, w1, w2, w3, w4, w5, w6, w7, w8, w9, h1, h2, g4, k1, k3, k5, k6, k7, k9, k10, k11, k12, e1, e3, e5, e6, r2, evts_lo, Ev.runFunc, Ev.exec, Ev.evOpers, Ev.evOper, Ev.item_op, Ev.item_I, Ev.evOp, Ev.evs, Ev.Opnd.ev, Ev.Env.get, Ev.Env.set, Ev.Env.unset, Ev.look, Ev.argVars, Ev.bin_add, Ev.bin_sub, Ev.bin_eql, Ev.bin_lss, Ev.bin_gtr, Ev.resVals, Ev.resOf, Ev.kill, Ev.leave, Ev.settle, Ev.keep, Ev.varsLo, Ev.marksLo, Ev.storeLo, Ev.SObj.lo, Ev.lo_v, Ev.lo_tup, Ev.lo_sl, Ev.lo_fn, Ev.los_nil, ↓Ev.obind, ↓Ev.itL_itB, ↓reduceIte, List.length_cons, List.length_nil, List.take_succ_cons, List.take_nil, Nat.reduceAdd, Nat.reduceEqDiff, reduceCtorEq, decide_true, decide_false, Bool.and_self, Bool.false_eq_true, and_self, Nat.zero_add, Nat.lt_add_one, eq_self]
theorem merge_way_00101 (x1 x2 y1 y2 a m b mid nn lo hi p start fin : Nat) (D D2 D3 D4 : List Evt) (N : Nums n x1 x2 y1 y2 a m b mid nn lo hi p start fin) (g1 : ¬ mid < m)
    (d1 : ¬ start < m) (d2 : m < fin) (d3 : ¬ a < start) (d4 : fin < b)
    (hf : Finds g cl n a m b mid nn a m p start D) (hS : Steps g cl n a m b mid start fin D D2 D3 D4) : MergeTo g cl n a m b D D4 := by
  obtain ⟨s1, n1, s2, n2, s3, n3⟩ := hS
  obtain ⟨⟨y, e, σ⟩, k1, k2, k3, k4, k5, k6, k7, k8, k9, k10, k11, k12⟩ := hf
  obtain ⟨w1, h1, w2, h2, w3, w4, w5, w6, w7, w8, w9, c5, c6⟩ := N.wraps
  simp only at k1 k2 k3 k4 k5 k6 k7 k8 k9 k10 k11 k12
  subst k2; subst k4
  unfold MergeTo at *
  rw [evL_code ext_slices_symMergeCmpFunc_api_SimEvent code_slices_symMergeCmpFunc_api_SimEvent]
  have g4 : ¬ (m : Int) > (mid : Int) := fun h => g1 (Int.ofNat_lt.1 h)
  have e1 : ¬ (start : Int) < (m : Int) := fun h => d1 (Int.ofNat_lt.1 h)
  have e2 : (m : Int) < (fin : Int) := Int.ofNat_lt.2 d2
  have e3 : ¬ (a : Int) < (start : Int) := fun h => d3 (Int.ofNat_lt.1 h)
  have e5 : ¬ (mid : Int) < (fin : Int) := fun h => d1 (c5.1 (Int.ofNat_lt.1 h))
  have e6 : (start : Int) < (mid : Int) := Int.ofNat_lt.2 (c6.2 d2)
  have e4 : (fin : Int) < (b : Int) := Int.ofNat_lt.2 d4
  have r1 := n1 (fun h => d1 h.1); subst r1
  have r2 := n2 (fun h => d3 h.1); subst r2
  have r3 := n3 (fun h => d1 (c5.1 h.1)); subst r3
  simp only [c_slices_symMergeCmpFunc_api_SimEvent, w1, w2, w3, w4, w5, w6, w7, w8, w9, h1, h2, g4, k1, k3, k6, k7, k10, k11, k12, e1, e3, e5, evts_lo, Ev.runFunc, Ev.exec, Ev.evOpers, Ev.evOper, Ev.item_op, Ev.evOp, Ev.Opnd.ev, Ev.Env.get, Ev.Env.set, Ev.Env.unset, Ev.look, Ev.argVars, Ev.bin_add, Ev.bin_sub, Ev.bin_eql, Ev.bin_lss, Ev.bin_gtr, Ev.resVals, Ev.resOf, Ev.kill, Ev.leave, Ev.settle, Ev.keep, Ev.varsLo, Ev.marksLo, Ev.storeLo, Ev.SObj.lo, Ev.lo_v, Ev.lo_tup, Ev.lo_sl, Ev.lo_fn, Ev.los_nil, ↓Ev.obind, ↓Ev.itL_itB, ↓reduceIte, List.length_cons, List.length_nil, List.take_succ_cons, List.take_nil, Nat.reduceAdd, Nat.reduceEqDiff, reduceCtorEq, decide_true, decide_false, Bool.and_self, Bool.false_eq_true, and_self, Nat.zero_add, Nat.lt_add_one, eq_self]
theorem merge_way_00100 (x1 x2 y1 y2 a m b mid nn lo hi p start fin : Nat) (D D2 D3 D4 : List Evt) (N : Nums n x1 x2 y1 y2 a m b mid nn lo hi p start fin) (g1 : ¬ mid < m)
    (d1 : ¬ start < m) (d2 : m < fin) (d3 : ¬ a < start) (d4 : ¬ fin < b)
    (hf : Finds g cl n a m b mid nn a m p start D) (hS : Steps g cl n a m b mid start fin D D2 D3 D4) : MergeTo g cl n a m b D D4 := by
  obtain ⟨s1, n1, s2, n2, s3, n3⟩ := hS
  obtain ⟨⟨y, e, σ⟩, k1, k2, k3, k4, k5, k6, k7, k8, k9, k10, k11, k12⟩ := hf
  obtain ⟨w1, h1, w2, h2, w3, w4, w5, w6, w7, w8, w9, c5, c6⟩ := N.wraps
  simp only at k1 k2 k3 k4 k5 k6 k7 k8 k9 k10 k11 k12
  subst k2; subst k4
  unfold MergeTo at *
  rw [evL_code ext_slices_symMergeCmpFunc_api_SimEvent code_slices_symMergeCmpFunc_api_SimEvent]
  have g4 : ¬ (m : Int) > (mid : Int) := fun h => g1 (Int.ofNat_lt.1 h)
  have e1 : ¬ (start : Int) < (m : Int) := fun h => d1 (Int.ofNat_lt.1 h)
  have e2 : (m : Int) < (fin : Int) := Int.ofNat_lt.2 d2
  have e3 : ¬ (a : Int) < (start : Int) := fun h => d3 (Int.ofNat_lt.1 h)
  have e5 : ¬ (mid : Int) < (fin : Int) := fun h => d1 (c5.1 (Int.ofNat_lt.1 h))
  have e6 : (start : Int) < (mid : Int) := Int.ofNat_lt.2 (c6.2 d2)
  have e4 : ¬ (fin : Int) < (b : Int) := fun h => d4 (Int.ofNat_lt.1 h)
  have r1 := n1 (fun h => d1 h.1); subst r1
  have r2 := n2 (fun h => d3 h.1); subst r2
  have r3 := n3 (fun h => d1 (c5.1 h.1)); subst r3
  simp only [c_slices_symMergeCmpFunc_api_SimEvent, w1, w2, w3, w4, w5, w6, w7, w8, w9, h1, h2, g4, k1, k3, k6, k7, k10, k11, k12, e1, e3, e5, evts_lo, Ev.runFunc, Ev.exec, Ev.evOpers, Ev.evOper, Ev.item_op, Ev.evOp, Ev.Opnd.ev, Ev.Env.get, Ev.Env.set, Ev.Env.unset, Ev.look, Ev.argVars, Ev.bin_add, Ev.bin_sub, Ev.bin_eql, Ev.bin_lss, Ev.bin_gtr, Ev.resVals, Ev.resOf, Ev.kill, Ev.leave, Ev.settle, Ev.keep, Ev.varsLo, Ev.marksLo, Ev.storeLo, Ev.SObj.lo, Ev.lo_v, Ev.lo_tup, Ev.lo_sl, Ev.lo_fn, Ev.los_nil, ↓Ev.obind, ↓Ev.itL_itB, ↓reduceIte, List.length_cons, List.length_nil, List.take_succ_cons, List.take_nil, Nat.reduceAdd, Nat.reduceEqDiff, reduceCtorEq, decide_true, decide_false, Bool.and_self, Bool.false_eq_true, and_self, Nat.zero_add, Nat.lt_add_one, eq_self]
theorem merge_way_00011 (x1 x2 y1 y2 a m b mid nn lo hi p start fin : Nat) (D D2 D3 D4 : List Evt) (N : Nums n x1 x2 y1 y2 a m b mid nn lo hi p start fin) (g1 : ¬ mid < m)
    (d1 : ¬ start < m) (d2 : ¬ m < fin) (d3 : a < start) (d4 : fin < b)
    (hf : Finds g cl n a m b mid nn a m p start D) (hS : Steps g cl n a m b mid start fin D D2 D3 D4) : MergeTo g cl n a m b D D4 := by
  obtain ⟨s1, n1, s2, n2, s3, n3⟩ := hS
  obtain ⟨⟨y, e, σ⟩, k1, k2, k3, k4, k5, k6, k7, k8, k9, k10, k11, k12⟩ := hf
  obtain ⟨w1, h1, w2, h2, w3, w4, w5, w6, w7, w8, w9, c5, c6⟩ := N.wraps
  simp only at k1 k2 k3 k4 k5 k6 k7 k8 k9 k10 k11 k12
  subst k2; subst k4
  unfold MergeTo at *
  rw [evL_code ext_slices_symMergeCmpFunc_api_SimEvent code_slices_symMergeCmpFunc_api_SimEvent]
  have g4 : ¬ (m : Int) > (mid : Int) := fun h => g1 (Int.ofNat_lt.1 h)
  have e1 : ¬ (start : Int) < (m : Int) := fun h => d1 (Int.ofNat_lt.1 h)
  have e2 : ¬ (m : Int) < (fin : Int) := fun h => d2 (Int.ofNat_lt.1 h)
  have e3 : (a : Int) < (start : Int) := Int.ofNat_lt.2 d3
  have e5 : ¬ (mid : Int) < (fin : Int) := fun h => d1 (c5.1 (Int.ofNat_lt.1 h))
  have e6 : ¬ (start : Int) < (mid : Int) := fun h => d2 (c6.1 (Int.ofNat_lt.1 h))
  have e4 : (fin : Int) < (b : Int) := Int.ofNat_lt.2 d4
  have r1 := n1 (fun h => d1 h.1); subst r1
  have r2 := n2 (fun h => d2 (c6.1 h.2)); subst r2
  have r3 := n3 (fun h => d1 (c5.1 h.1)); subst r3
  simp only [c_slices_symMergeCmpFunc_api_SimEvent, w1, w2, w3, w4, w5, w6, w7, w8, w9, h1, h2, g4, k1, k3, k6, k7, k10, k11, k12, e1, e3, e5, e6, evts_lo, Ev.runFunc, Ev.exec, Ev.evOpers, Ev.evOper, Ev.item_op, Ev.evOp, Ev.Opnd.ev, Ev.Env.get, Ev.Env.set, Ev.Env.unset, Ev.look, Ev.argVars, Ev.bin_add, Ev.bin_sub, Ev.bin_eql, Ev.bin_lss, Ev.bin_gtr, Ev.resVals, Ev.resOf, Ev.kill, Ev.leave, Ev.settle, Ev.keep, Ev.varsLo, Ev.marksLo, Ev.storeLo, Ev.SObj.lo, Ev.lo_v, Ev.lo_tup, Ev.lo_sl, Ev.lo_fn, Ev.los_nil, ↓Ev.obind, ↓Ev.itL_itB, ↓reduceIte, List.length_cons, List.length_nil, List.take_succ_cons, List.take_nil, Nat.reduceAdd, Nat.reduceEqDiff, reduceCtorEq, decide_true, decide_false, Bool.and_self, Bool.false_eq_true, and_self, Nat.zero_add, Nat.lt_add_one, eq_self]
theorem merge_way_00010 (x1 x2 y1 y2 a m b mid nn lo hi p start fin : Nat) (D D2 D3 D4 : List Evt) (N : Nums n x1 x2 y1 y2 a m b mid nn lo hi p start fin) (g1 : ¬ mid < m)
    (d1 : ¬ start < m) (d2 : ¬ m < fin) (d3 : a < start) (d4 : ¬ fin < b)
    (hf : Finds g cl n a m b mid nn a m p start D) (hS : Steps g cl n a m b mid start fin D D2 D3 D4) : MergeTo g cl n a m b D D4 := by
  obtain ⟨s1, n1, s2, n2, s3, n3⟩ := hS
  obtain ⟨⟨y, e, σ⟩, k1, k2, k3, k4, k5, k6, k7, k8, k9, k10, k11, k12⟩ := hf
  obtain ⟨w1, h1, w2, h2, w3, w4, w5, w6, w7, w8, w9, c5, c6⟩ := N.wraps
  simp only at k1 k2 k3 k4 k5 k6 k7 k8 k9 k10 k11 k12
  subst k2; subst k4
  unfold MergeTo at *
  rw [evL_code ext_slices_symMergeCmpFunc_api_SimEvent code_slices_symMergeCmpFunc_api_SimEvent]
  have g4 : ¬ (m : Int) > (mid : Int) := fun h => g1 (Int.ofNat_lt.1 h)
  have e1 : ¬ (start : Int) < (m : Int) := fun h => d1 (Int.ofNat_lt.1 h)
  have e2 : ¬ (m : Int) < (fin : Int) := fun h => d2 (Int.ofNat_lt.1 h)
  have e3 : (a : Int) < (start : Int) := Int.ofNat_lt.2 d3
  have e5 : ¬ (mid : Int) < (fin : Int) := fun h => d1 (c5.1 (Int.ofNat_lt.1 h))
  have e6 : ¬ (start : Int) < (mid : Int) := fun h => d2 (c6.1 (Int.ofNat_lt.1 h))
  have e4 : ¬ (fin : Int) < (b : Int) := fun h => d4 (Int.ofNat_lt.1 h)
  have r1 := n1 (fun h => d1 h.1); subst r1
  have r2 := n2 (fun h => d2 (c6.1 h.2)); subst r2
  have r3 := n3 (fun h => d1 (c5.1 h.1)); subst r3
  simp only [c_slices_symMergeCmpFunc_api_SimEvent, w1, w2, w3, w4, w5, w6, w7, w8, w9, h1, h2, g4, k1, k3, k6, k7, k10, k11, k12, e1, e3, e5, e6, evts_lo, Ev.runFunc, Ev.exec, Ev.evOpers, Ev.evOper, Ev.item_op, Ev.evOp, Ev.Opnd.ev, Ev.Env.get, Ev.Env.set, Ev.Env.unset, Ev.look, Ev.argVars, Ev.bin_add, Ev.bin_sub, Ev.bin_eql, Ev.bin_lss, Ev.bin_gtr, Ev.resVals, Ev.resOf, Ev.kill, Ev.leave, Ev.settle, Ev.keep, Ev.varsLo, Ev.marksLo, Ev.storeLo, Ev.SObj.lo, Ev.lo_v, Ev.lo_tup, Ev.lo_sl, Ev.lo_fn, Ev.los_nil, ↓Ev.obind, ↓Ev.itL_itB, ↓reduceIte, List.length_cons, List.length_nil, List.take_succ_cons, List.take_nil, Nat.reduceAdd, Nat.reduceEqDiff, reduceCtorEq, decide_true, decide_false, Bool.and_self, Bool.false_eq_true, and_self, Nat.zero_add, Nat.lt_add_one, eq_self]
theorem merge_way_00001 (x1 x2 y1 y2 a m b mid nn lo hi p start fin : Nat) (D D2 D3 D4 : List Evt) (N : Nums n x1 x2 y1 y2 a m b mid nn lo hi p start fin) (g1 : ¬ mid < m)
    (d1 : ¬ start < m) (d2 : ¬ m < fin) (d3 : ¬ a < start) (d4 : fin < b)
    (hf : Finds g cl n a m b mid nn a m p start D) (hS : Steps g cl n a m b mid start fin D D2 D3 D4) : MergeTo g cl n a m b D D4 := by
  obtain ⟨s1, n1, s2, n2, s3, n3⟩ := hS
  obtain ⟨⟨y, e, σ⟩, k1, k2, k3, k4, k5, k6, k7, k8, k9, k10, k11, k12⟩ := hf
  obtain ⟨w1, h1, w2, h2, w3, w4, w5, w6, w7, w8, w9, c5, c6⟩ := N.wraps
  simp only at k1 k2 k3 k4 k5 k6 k7 k8 k9 k10 k11 k12
  subst k2; subst k4
  unfold MergeTo at *
  rw [evL_code ext_slices_symMergeCmpFunc_api_SimEvent code_slices_symMergeCmpFunc_api_SimEvent]
  have g4 : ¬ (m : Int) > (mid : Int) := fun h => g1 (Int.ofNat_lt.1 h)
  have e1 : ¬ (start : Int) < (m : Int) := fun h => d1 (Int.ofNat_lt.1 h)
  have e2 : ¬ (m : Int) < (fin : Int) := fun h => d2 (Int.ofNat_lt.1 h)
  have e3 : ¬ (a : Int) < (start : Int) := fun h => d3 (Int.ofNat_lt.1 h)
  have e5 : ¬ (mid : Int) < (fin : Int) := fun h => d1 (c5.1 (Int.ofNat_lt.1 h))
  have e6 : ¬ (start : Int) < (mid : Int) := fun h => d2 (c6.1 (Int.ofNat_lt.1 h))
  have e4 : (fin : Int) < (b : Int) := Int.ofNat_lt.2 d4
  have r1 := n1 (fun h => d1 h.1); subst r1
  have r2 := n2 (fun h => d3 h.1); subst r2
  have r3 := n3 (fun h => d1 (c5.1 h.1)); subst r3
  simp only [c_slices_symMergeCmpFunc_api_SimEvent, w1, w2, w3, w4, w5, w6, w7, w8, w9, h1, h2, g4, k1, k3, k6, k7, k10, k11, k12, e1, e3, e5, evts_lo, Ev.runFunc, Ev.exec, Ev.evOpers, Ev.evOper, Ev.item_op, Ev.evOp, Ev.Opnd.ev, Ev.Env.get, Ev.Env.set, Ev.Env.unset, Ev.look, Ev.argVars, Ev.bin_add, Ev.bin_sub, Ev.bin_eql, Ev.bin_lss, Ev.bin_gtr, Ev.resVals, Ev.resOf, Ev.kill, Ev.leave, Ev.settle, Ev.keep, Ev.varsLo, Ev.marksLo, Ev.storeLo, Ev.SObj.lo, Ev.lo_v, Ev.lo_tup, Ev.lo_sl, Ev.lo_fn, Ev.los_nil, ↓Ev.obind, ↓Ev.itL_itB, ↓reduceIte, List.length_cons, List.length_nil, List.take_succ_cons, List.take_nil, Nat.reduceAdd, Nat.reduceEqDiff, reduceCtorEq, decide_true, decide_false, Bool.and_self, Bool.false_eq_true, and_self, Nat.zero_add, Nat.lt_add_one, eq_self]
theorem merge_way_00000 (x1 x2 y1 y2 a m b mid nn lo hi p start fin : Nat) (D D2 D3 D4 : List Evt) (N : Nums n x1 x2 y1 y2 a m b mid nn lo hi p start fin) (g1 : ¬ mid < m)
    (d1 : ¬ start < m) (d2 : ¬ m < fin) (d3 : ¬ a < start) (d4 : ¬ fin < b)
    (hf : Finds g cl n a m b mid nn a m p start D) (hS : Steps g cl n a m b mid start fin D D2 D3 D4) : MergeTo g cl n a m b D D4 := by
  obtain ⟨s1, n1, s2, n2, s3, n3⟩ := hS
  obtain ⟨⟨y, e, σ⟩, k1, k2, k3, k4, k5, k6, k7, k8, k9, k10, k11, k12⟩ := hf
  obtain ⟨w1, h1, w2, h2, w3, w4, w5, w6, w7, w8, w9, c5, c6⟩ := N.wraps
  simp only at k1 k2 k3 k4 k5 k6 k7 k8 k9 k10 k11 k12
  subst k2; subst k4
  unfold MergeTo at *
  rw [evL_code ext_slices_symMergeCmpFunc_api_SimEvent code_slices_symMergeCmpFunc_api_SimEvent]
  have g4 : ¬ (m : Int) > (mid : Int) := fun h => g1 (Int.ofNat_lt.1 h)
  have e1 : ¬ (start : Int) < (m : Int) := fun h => d1 (Int.ofNat_lt.1 h)
  have e2 : ¬ (m : Int) < (fin : Int) := fun h => d2 (Int.ofNat_lt.1 h)
  have e3 : ¬ (a : Int) < (start : Int) := fun h => d3 (Int.ofNat_lt.1 h)
  have e5 : ¬ (mid : Int) < (fin : Int) := fun h => d1 (c5.1 (Int.ofNat_lt.1 h))
  have e6 : ¬ (start : Int) < (mid : Int) := fun h => d2 (c6.1 (Int.ofNat_lt.1 h))
  have e4 : ¬ (fin : Int) < (b : Int) := fun h => d4 (Int.ofNat_lt.1 h)
  have r1 := n1 (fun h => d1 h.1); subst r1
  have r2 := n2 (fun h => d3 h.1); subst r2
  have r3 := n3 (fun h => d1 (c5.1 h.1)); subst r3
  simp only [c_slices_symMergeCmpFunc_api_SimEvent, w1, w2, w3, w4, w5, w6, w7, w8, w9, h1, h2, g4, k1, k3, k6, k7, k10, k11, k12, e1, e3, e5, evts_lo, Ev.runFunc, Ev.exec, Ev.evOpers, Ev.evOper, Ev.item_op, Ev.evOp, Ev.Opnd.ev, Ev.Env.get, Ev.Env.set, Ev.Env.unset, Ev.look, Ev.argVars, Ev.bin_add, Ev.bin_sub, Ev.bin_eql, Ev.bin_lss, Ev.bin_gtr, Ev.resVals, Ev.resOf, Ev.kill, Ev.leave, Ev.settle, Ev.keep, Ev.varsLo, Ev.marksLo, Ev.storeLo, Ev.SObj.lo, Ev.lo_v, Ev.lo_tup, Ev.lo_sl, Ev.lo_fn, Ev.los_nil, ↓Ev.obind, ↓Ev.itL_itB, ↓reduceIte, List.length_cons, List.length_nil, List.take_succ_cons, List.take_nil, Nat.reduceAdd, Nat.reduceEqDiff, reduceCtorEq, decide_true, decide_false, Bool.and_self, Bool.false_eq_true, and_self, Nat.zero_add, Nat.lt_add_one, eq_self]
theorem merge_way (x1 x2 y1 y2 a m b mid nn lo hi p start fin : Nat) (D D2 D3 D4 : List Evt) (N : Nums n x1 x2 y1 y2 a m b mid nn lo hi p start fin) (hlo : mid < m ∧ nn = b + lo ∧ hi = mid ∨ ¬ mid < m ∧ lo = a ∧ hi = m)
    (hfind : ∃ y, itB (exec (evL T) itL none c_slices_symMergeCmpFunc_api_SimEvent_L5) (Ev.settle [0, 1, 2, 3, 4, 18, 19, 20, 21, 22] true 1) ⟨[(0, .sl 0 g 0 n cl), (1, (.v (.int .i64 (a)))), (2, (.v (.int .i64 (m)))), (3, (.v (.int .i64 (b)))), (4, (.fn (.func n_evkey_CompareEvents) [] [])), (18, (.v (.int .i64 (mid)))), (19, (.v (.int .i64 (nn)))), (20, (.v (.int .i64 (lo)))), (21, (.v (.int .i64 (hi)))), (22, (.v (.int .i64 (p))))], []⟩ [.row 6 ((D).map Evt.r) g] = some y ∧
      (y.1 = .exit 8 ∧ y.2.1.marks = [] ∧ y.2.2 = [.row 6 ((D).map Evt.r) g] ∧ Ev.look y.2.1.vars 0 = some (.sl 0 g 0 n cl) ∧ Ev.look y.2.1.vars 1 = some (.v (.int .i64 (a))) ∧ Ev.look y.2.1.vars 2 = some (.v (.int .i64 (m))) ∧ Ev.look y.2.1.vars 3 = some (.v (.int .i64 (b))) ∧ Ev.look y.2.1.vars 4 = some (.fn (.func n_evkey_CompareEvents) [] []) ∧ Ev.look y.2.1.vars 18 = some (.v (.int .i64 (mid))) ∧
        Ev.look y.2.1.vars 19 = some (.v (.int .i64 (nn))) ∧ Ev.look y.2.1.vars 20 = some (.v (.int .i64 (start)))))
    (s1 : start < m → m < fin → (evL T).call n_slices_rotateCmpFunc_api_SimEvent [.sl 0 g 0 n cl, (.v (.int .i64 (start))), (.v (.int .i64 (m))), (.v (.int .i64 (fin))), (.fn (.func n_evkey_CompareEvents) [] [])] [.row 6 ((D).map Evt.r) g] = some (.tup [], [.row 6 ((D2).map Evt.r) g])) (n1 : ¬ (start < m ∧ m < fin) → D2 = D)
    (s2 : a < start → start < mid → MergeTo g cl n a start mid D2 D3) (n2 : ¬ (a < start ∧ start < mid) → D3 = D2)
    (s3 : mid < fin → fin < b → MergeTo g cl n mid fin b D3 D4) (n3 : ¬ (mid < fin ∧ fin < b) → D4 = D3) : MergeTo g cl n a m b D D4 := by
  rcases hlo with ⟨g1, g2, rfl⟩ | ⟨g1, rfl, rfl⟩
  · rcases Classical.em (start < m) with d1 | d1 <;> rcases Classical.em (m < fin) with d2 | d2 <;> rcases Classical.em (a < start) with d3 | d3 <;> rcases Classical.em (fin < b) with d4 | d4
    · exact merge_way_11111 g cl n x1 x2 y1 y2 a m b hi nn lo hi p start fin D D2 D3 D4 N g1 g2 d1 d2 d3 d4 hfind ⟨s1, n1, s2, n2, s3, n3⟩
    · exact merge_way_11110 g cl n x1 x2 y1 y2 a m b hi nn lo hi p start fin D D2 D3 D4 N g1 g2 d1 d2 d3 d4 hfind ⟨s1, n1, s2, n2, s3, n3⟩
    · exact merge_way_11101 g cl n x1 x2 y1 y2 a m b hi nn lo hi p start fin D D2 D3 D4 N g1 g2 d1 d2 d3 d4 hfind ⟨s1, n1, s2, n2, s3, n3⟩
    · exact merge_way_11100 g cl n x1 x2 y1 y2 a m b hi nn lo hi p start fin D D2 D3 D4 N g1 g2 d1 d2 d3 d4 hfind ⟨s1, n1, s2, n2, s3, n3⟩
    · exact merge_way_11011 g cl n x1 x2 y1 y2 a m b hi nn lo hi p start fin D D2 D3 D4 N g1 g2 d1 d2 d3 d4 hfind ⟨s1, n1, s2, n2, s3, n3⟩
    · exact merge_way_11010 g cl n x1 x2 y1 y2 a m b hi nn lo hi p start fin D D2 D3 D4 N g1 g2 d1 d2 d3 d4 hfind ⟨s1, n1, s2, n2, s3, n3⟩
    · exact merge_way_11001 g cl n x1 x2 y1 y2 a m b hi nn lo hi p start fin D D2 D3 D4 N g1 g2 d1 d2 d3 d4 hfind ⟨s1, n1, s2, n2, s3, n3⟩
    · exact merge_way_11000 g cl n x1 x2 y1 y2 a m b hi nn lo hi p start fin D D2 D3 D4 N g1 g2 d1 d2 d3 d4 hfind ⟨s1, n1, s2, n2, s3, n3⟩
    · exact merge_way_10111 g cl n x1 x2 y1 y2 a m b hi nn lo hi p start fin D D2 D3 D4 N g1 g2 d1 d2 d3 d4 hfind ⟨s1, n1, s2, n2, s3, n3⟩
    · exact merge_way_10110 g cl n x1 x2 y1 y2 a m b hi nn lo hi p start fin D D2 D3 D4 N g1 g2 d1 d2 d3 d4 hfind ⟨s1, n1, s2, n2, s3, n3⟩
    · exact merge_way_10101 g cl n x1 x2 y1 y2 a m b hi nn lo hi p start fin D D2 D3 D4 N g1 g2 d1 d2 d3 d4 hfind ⟨s1, n1, s2, n2, s3, n3⟩
    · exact merge_way_10100 g cl n x1 x2 y1 y2 a m b hi nn lo hi p start fin D D2 D3 D4 N g1 g2 d1 d2 d3 d4 hfind ⟨s1, n1, s2, n2, s3, n3⟩
    · exact merge_way_10011 g cl n x1 x2 y1 y2 a m b hi nn lo hi p start fin D D2 D3 D4 N g1 g2 d1 d2 d3 d4 hfind ⟨s1, n1, s2, n2, s3, n3⟩
    · exact merge_way_10010 g cl n x1 x2 y1 y2 a m b hi nn lo hi p start fin D D2 D3 D4 N g1 g2 d1 d2 d3 d4 hfind ⟨s1, n1, s2, n2, s3, n3⟩
    · exact merge_way_10001 g cl n x1 x2 y1 y2 a m b hi nn lo hi p start fin D D2 D3 D4 N g1 g2 d1 d2 d3 d4 hfind ⟨s1, n1, s2, n2, s3, n3⟩
    · exact merge_way_10000 g cl n x1 x2 y1 y2 a m b hi nn lo hi p start fin D D2 D3 D4 N g1 g2 d1 d2 d3 d4 hfind ⟨s1, n1, s2, n2, s3, n3⟩
  · rcases Classical.em (start < hi) with d1 | d1 <;> rcases Classical.em (hi < fin) with d2 | d2 <;> rcases Classical.em (lo < start) with d3 | d3 <;> rcases Classical.em (fin < b) with d4 | d4
    · exact merge_way_01111 g cl n x1 x2 y1 y2 lo hi b mid nn lo hi p start fin D D2 D3 D4 N g1 d1 d2 d3 d4 hfind ⟨s1, n1, s2, n2, s3, n3⟩
    · exact merge_way_01110 g cl n x1 x2 y1 y2 lo hi b mid nn lo hi p start fin D D2 D3 D4 N g1 d1 d2 d3 d4 hfind ⟨s1, n1, s2, n2, s3, n3⟩
    · exact merge_way_01101 g cl n x1 x2 y1 y2 lo hi b mid nn lo hi p start fin D D2 D3 D4 N g1 d1 d2 d3 d4 hfind ⟨s1, n1, s2, n2, s3, n3⟩
    · exact merge_way_01100 g cl n x1 x2 y1 y2 lo hi b mid nn lo hi p start fin D D2 D3 D4 N g1 d1 d2 d3 d4 hfind ⟨s1, n1, s2, n2, s3, n3⟩
    · exact merge_way_01011 g cl n x1 x2 y1 y2 lo hi b mid nn lo hi p start fin D D2 D3 D4 N g1 d1 d2 d3 d4 hfind ⟨s1, n1, s2, n2, s3, n3⟩
    · exact merge_way_01010 g cl n x1 x2 y1 y2 lo hi b mid nn lo hi p start fin D D2 D3 D4 N g1 d1 d2 d3 d4 hfind ⟨s1, n1, s2, n2, s3, n3⟩
    · exact merge_way_01001 g cl n x1 x2 y1 y2 lo hi b mid nn lo hi p start fin D D2 D3 D4 N g1 d1 d2 d3 d4 hfind ⟨s1, n1, s2, n2, s3, n3⟩
    · exact merge_way_01000 g cl n x1 x2 y1 y2 lo hi b mid nn lo hi p start fin D D2 D3 D4 N g1 d1 d2 d3 d4 hfind ⟨s1, n1, s2, n2, s3, n3⟩
    · exact merge_way_00111 g cl n x1 x2 y1 y2 lo hi b mid nn lo hi p start fin D D2 D3 D4 N g1 d1 d2 d3 d4 hfind ⟨s1, n1, s2, n2, s3, n3⟩
    · exact merge_way_00110 g cl n x1 x2 y1 y2 lo hi b mid nn lo hi p start fin D D2 D3 D4 N g1 d1 d2 d3 d4 hfind ⟨s1, n1, s2, n2, s3, n3⟩
    · exact merge_way_00101 g cl n x1 x2 y1 y2 lo hi b mid nn lo hi p start fin D D2 D3 D4 N g1 d1 d2 d3 d4 hfind ⟨s1, n1, s2, n2, s3, n3⟩
    · exact merge_way_00100 g cl n x1 x2 y1 y2 lo hi b mid nn lo hi p start fin D D2 D3 D4 N g1 d1 d2 d3 d4 hfind ⟨s1, n1, s2, n2, s3, n3⟩
    · exact merge_way_00011 g cl n x1 x2 y1 y2 lo hi b mid nn lo hi p start fin D D2 D3 D4 N g1 d1 d2 d3 d4 hfind ⟨s1, n1, s2, n2, s3, n3⟩
    · exact merge_way_00010 g cl n x1 x2 y1 y2 lo hi b mid nn lo hi p start fin D D2 D3 D4 N g1 d1 d2 d3 d4 hfind ⟨s1, n1, s2, n2, s3, n3⟩
    · exact merge_way_00001 g cl n x1 x2 y1 y2 lo hi b mid nn lo hi p start fin D D2 D3 D4 N g1 d1 d2 d3 d4 hfind ⟨s1, n1, s2, n2, s3, n3⟩
    · exact merge_way_00000 g cl n x1 x2 y1 y2 lo hi b mid nn lo hi p start fin D D2 D3 D4 N g1 d1 d2 d3 d4 hfind ⟨s1, n1, s2, n2, s3, n3⟩
end
end Go.Proofs.Ythkjkdbjgpeigaa.K
namespace Go.Proofs.Ythkjkdbjgpeigaa.K
open Go.Ev
set_option linter.unusedSimpArgs false
set_option linter.unusedVariables false
set_option maxRecDepth 10000
section
variable (g : Nat) (cl : Bool) (n : Nat)
theorem symMerge_ev (hb : n < 2 ^ 61) : ∀ (k : Nat) (P X Y Q : List Evt), X.length + Y.length ≤ k → 0 < X.length → 0 < Y.length → X.Pairwise leE → Y.Pairwise leE → n = (P ++ (X ++ (Y ++ Q))).length → KeysOk (P ++ (X ++ (Y ++ Q))) →
    ∀ a m b : Nat, a = P.length → m = a + X.length → b = m + Y.length → ∃ Z : List Evt, Z.Perm (X ++ Y) ∧ Z.Pairwise leE ∧ MergeTo g cl n a m b (P ++ (X ++ (Y ++ Q))) (P ++ (Z ++ Q)) := by
  intro k
  induction k with
  | zero => intro P X Y Q h1 h2 h3; omega
  | succ k ih =>
    intro P X Y Q hk hX0 hY0 hX hY hn hkeys a m b ha hm hbb
    by_cases hx : X.length = 1
    · obtain ⟨x, rfl⟩ := List.length_eq_one_iff.1 hx
      simp only [List.cons_append, List.nil_append, List.length_cons, List.length_nil] at hn hkeys hm ⊢
      exact merge_one1 g cl n P Y Q x hY hY0 hn hb hkeys a m b ha hm hbb
    by_cases hy : Y.length = 1
    · obtain ⟨y, rfl⟩ := List.length_eq_one_iff.1 hy
      simp only [List.cons_append, List.nil_append, List.length_cons, List.length_nil] at hn hkeys hbb ⊢
      exact merge_one2 g cl n P X Q y hX (by omega) hn hb hkeys a m b ha hm hbb
    have hlen : n = P.length + (X.length + (Y.length + Q.length)) := by rw [hn]; simp
    obtain ⟨mid, hmid⟩ : ∃ mid, mid = (a + b) / 2 := ⟨_, rfl⟩
    obtain ⟨nn, hnn⟩ : ∃ nn, nn = mid + m := ⟨_, rfl⟩
    obtain ⟨p, hp⟩ : ∃ p, nn = p + 1 := ⟨nn - 1, by omega⟩
    obtain ⟨lo, hi, hlo⟩ : ∃ lo hi, mid < m ∧ nn = b + lo ∧ hi = mid ∨ ¬ mid < m ∧ lo = a ∧ hi = m := by
      by_cases c : mid < m
      · exact ⟨nn - b, mid, .inl ⟨c, by omega, rfl⟩⟩
      · exact ⟨a, m, .inr ⟨c, rfl, rfl⟩⟩
    obtain ⟨y, f1, start, f2, f3, f4, f5, f6, f7, f8, f9, f10, f11, f12, f13, f14, f15, f16⟩ := merge_find3 g cl n (P ++ (X ++ (Y ++ Q))) hn hb hkeys a m b mid nn p lo hi hp (by omega) (fun c h1 h2 => by omega) (by omega) (by omega)
    obtain ⟨fin, hfin⟩ : ∃ fin, nn = start + fin := ⟨nn - start, by omega⟩
    obtain ⟨X1, X2, rfl, hX1⟩ : ∃ X1 X2, X = X1 ++ X2 ∧ X1.length = start - a := ⟨X.take (start - a), X.drop (start - a), (List.take_append_drop _ _).symm, by simp; omega⟩
    obtain ⟨Y1, Y2, rfl, hY1⟩ : ∃ Y1 Y2, Y = Y1 ++ Y2 ∧ Y1.length = fin - m := ⟨Y.take (fin - m), Y.drop (fin - m), (List.take_append_drop _ _).symm, by simp; omega⟩
    simp only [List.length_append] at hk hX0 hY0 hx hy hm hbb hlen
    obtain ⟨x1, x2, x3⟩ := List.pairwise_append.1 hX
    obtain ⟨y1, y2, y3⟩ := List.pairwise_append.1 hY
    have hst : start = a + X1.length := by omega
    have hfi : fin = m + Y1.length := by omega
    have N : Nums n X1.length X2.length Y1.length Y2.length a m b mid nn lo hi p start fin := ⟨by omega, by omega, hb, hmid, hnn, hp, hfin, hm, hbb, by omega, hst, hfi⟩
    simp only [List.append_assoc] at f1 f4 f15 f16 hn hkeys ⊢
    have hk2 : KeysOk (P ++ (X1 ++ (Y1 ++ (X2 ++ (Y2 ++ Q))))) := by
      intro z hz; refine hkeys z ?_
      simp only [List.mem_append] at hz ⊢
      rcases hz with h | h | h | h | h | h
      · exact .inl h
      · exact .inr (.inl h)
      · exact .inr (.inr (.inr (.inl h)))
      · exact .inr (.inr (.inl h))
      · exact .inr (.inr (.inr (.inr (.inl h))))
      · exact .inr (.inr (.inr (.inr (.inr h))))
    obtain ⟨Z1, p1, q1, s2, n2⟩ : ∃ Z1 : List Evt, Z1.Perm (X1 ++ Y1) ∧ Z1.Pairwise leE ∧ (a < start → start < mid → MergeTo g cl n a start mid (P ++ (X1 ++ (Y1 ++ (X2 ++ (Y2 ++ Q))))) (P ++ (Z1 ++ (X2 ++ (Y2 ++ Q))))) ∧ (¬ (a < start ∧ start < mid) → P ++ (Z1 ++ (X2 ++ (Y2 ++ Q))) = P ++ (X1 ++ (Y1 ++ (X2 ++ (Y2 ++ Q))))) := by
      by_cases c : a < start ∧ start < mid
      · obtain ⟨Z, p1, q1, r1⟩ := ih P X1 Y1 (X2 ++ (Y2 ++ Q)) (by omega) (by omega) (by omega) x1 y1 (by rw [hlen]; simp; omega) hk2 a start mid ha hst (by omega)
        exact ⟨Z, p1, q1, fun _ _ => r1, fun h => absurd c h⟩
      · refine ⟨X1 ++ Y1, .refl _, ?_, fun h1 h2 => absurd ⟨h1, h2⟩ c, fun _ => by simp⟩
        by_cases c1 : a < start
        · rw [show Y1 = [] from List.eq_nil_of_length_eq_zero (by omega), List.append_nil]; exact x1
        · rw [show X1 = [] from List.eq_nil_of_length_eq_zero (by omega), List.nil_append]; exact y1
    have lz := p1.length_eq
    rw [List.length_append] at lz
    have hk3 : KeysOk (P ++ Z1 ++ (X2 ++ (Y2 ++ Q))) := by
      intro z hz; refine hk2 z ?_
      have := p1.mem_iff (a := z)
      simp only [List.mem_append] at hz this ⊢
      rcases hz with (h | h) | h
      · exact .inl h
      · rcases this.1 h with h | h
        · exact .inr (.inl h)
        · exact .inr (.inr (.inl h))
      · exact .inr (.inr (.inr h))
    obtain ⟨Z2, p2, q2, s3, n3⟩ : ∃ Z2 : List Evt, Z2.Perm (X2 ++ Y2) ∧ Z2.Pairwise leE ∧ (mid < fin → fin < b → MergeTo g cl n mid fin b (P ++ (Z1 ++ (X2 ++ (Y2 ++ Q)))) (P ++ (Z1 ++ (Z2 ++ Q)))) ∧ (¬ (mid < fin ∧ fin < b) → P ++ (Z1 ++ (Z2 ++ Q)) = P ++ (Z1 ++ (X2 ++ (Y2 ++ Q)))) := by
      by_cases c : mid < fin ∧ fin < b
      · obtain ⟨Z, p2, q2, r2⟩ := ih (P ++ Z1) X2 Y2 Q (by omega) (by omega) (by omega) x2 y2 (by rw [hlen]; simp; omega) hk3 mid fin b (by simp; omega) (by omega) (by omega)
        simp only [List.append_assoc] at r2
        exact ⟨Z, p2, q2, fun _ _ => r2, fun h => absurd c h⟩
      · refine ⟨X2 ++ Y2, .refl _, ?_, fun h1 h2 => absurd ⟨h1, h2⟩ c, fun _ => by simp⟩
        by_cases c1 : mid < fin
        · rw [show Y2 = [] from List.eq_nil_of_length_eq_zero (by omega), List.append_nil]; exact x2
        · rw [show X2 = [] from List.eq_nil_of_length_eq_zero (by omega), List.nil_append]; exact y2
    have ms := merge_split leE_trans hX hY (Z1 := Z1) (Z2 := Z2) ?_ ?_ p1 p2 q1 q2
    · refine ⟨Z1 ++ Z2, by simpa using ms.1, ms.2, ?_⟩
      simp only [List.append_assoc]
      refine merge_way g cl n X1.length X2.length Y1.length Y2.length a m b mid nn lo hi p start fin _ _ _ _ N hlo ⟨y, f1, f2, f3, f4, f5, f6, f7, f8, f9, f10, f11, f12⟩ ?_ ?_ s2 n2 s3 n3
      · intro c1 c2
        have r := rotate_ev g cl n (P ++ X1) X2 Y1 (Y2 ++ Q) (by omega) (by omega) (by rw [hlen]; simp; omega) hb start m fin (by simp; omega) (by omega) (by omega)
        simpa only [List.append_assoc] using r
      · intro c
        by_cases c1 : start < m
        · rw [show Y1 = [] from List.eq_nil_of_length_eq_zero (by omega)]; simp
        · rw [show X2 = [] from List.eq_nil_of_length_eq_zero (by omega)]; simp
    · intro u v hu hv
      have hlt : X1.length - 1 < X1.length := (List.getElem?_eq_some_iff.1 hu).1
      have hlt2 : 0 < Y2.length := (List.getElem?_eq_some_iff.1 hv).1
      rcases f15 with h | h
      · omega
      · refine h u v ?_ ?_
        · rw [← hu]; exact get_in (L := P) (X := X1) (M := X2 ++ (Y1 ++ (Y2 ++ Q))) rfl hlt (by omega)
        · rw [← hv]; exact get_in (L := P ++ (X1 ++ (X2 ++ Y1))) (X := Y2) (M := Q) (by simp) hlt2 (by simp; omega)
    · intro u v hu hv
      have hlt : Y1.length - 1 < Y1.length := (List.getElem?_eq_some_iff.1 hu).1
      have hlt2 : 0 < X2.length := (List.getElem?_eq_some_iff.1 hv).1
      rcases f16 with h | h
      · omega
      · refine h u v ?_ ?_
        · rw [← hu]; exact get_in (L := P ++ (X1 ++ X2)) (X := Y1) (M := Y2 ++ Q) (by simp) hlt (by simp; omega)
        · rw [← hv]; exact get_in (L := P ++ X1) (X := X2) (M := Y1 ++ (Y2 ++ Q)) (by simp) hlt2 (by simp; omega)
end
end Go.Proofs.Ythkjkdbjgpeigaa.K
namespace Go.Proofs.Ythkjkdbjgpeigaa.K
open Go.Ev
set_option linter.unusedSimpArgs false
set_option linter.unusedVariables false
set_option maxRecDepth 10000
theorem w64_mul2 {a : Nat} (h : a < 2 ^ 61) : IntKind.i64.wrap (2 * (a : Int)) = ((2 * a : Nat) : Int) := by rw [w64_small (by omega) (by omega)]; omega
theorem w64_mul2' {a : Nat} (h : a < 2 ^ 61) : IntKind.i64.wrap ((a : Int) * 2) = ((2 * a : Nat) : Int) := by rw [w64_small (by omega) (by omega)]; omega
section
variable (g : Nat) (cl : Bool) (n : Nat)
theorem stable_L1 (l : List Evt) (hn : n = l.length) (hb : n < 2 ^ 58) (hk : KeysOk l) :
    ∃ y, itB (exec (evL T) itL none c_slices_stableCmpFunc_api_SimEvent_L1) (Ev.settle [0, 1, 2, 6, 7, 8] true 1) ⟨[(0, .sl 0 g 0 n cl), (1, (.v (.int .i64 (n)))), (2, (.fn (.func n_evkey_CompareEvents) [] [])), (6, (.v (.int .i64 (20)))), (7, (.v (.int .i64 (0)))), (8, (.v (.int .i64 (20))))], []⟩ [.row 6 ((l).map Evt.r) g] = some y ∧
      ∃ a : Nat, y.1 = .exit 0 ∧ y.2.1.marks = [] ∧ Ev.look y.2.1.vars 0 = some (.sl 0 g 0 n cl) ∧ Ev.look y.2.1.vars 1 = some (.v (.int .i64 (n))) ∧ Ev.look y.2.1.vars 2 = some (.fn (.func n_evkey_CompareEvents) [] []) ∧ Ev.look y.2.1.vars 6 = some (.v (.int .i64 (20))) ∧ Ev.look y.2.1.vars 7 = some (.v (.int .i64 (a))) ∧
        ∃ Dn Rs : List Evt, y.2.2 = [.row 6 ((Dn ++ Rs).map Evt.r) g] ∧ a = Dn.length ∧ (Dn ++ Rs).Perm l ∧ Rs.length < 20 ∧ ∀ t, Blk leE 20 t → Blk leE 20 (Dn ++ t) := by
  have key := itB_while (f := exec (evL T) itL none c_slices_stableCmpFunc_api_SimEvent_L1) (s := Ev.settle [0, 1, 2, 6, 7, 8] true 1) (τ := List Evt × Nat)
    (fun s => ⟨[(0, .sl 0 g 0 n cl), (1, (.v (.int .i64 (n)))), (2, (.fn (.func n_evkey_CompareEvents) [] [])), (6, (.v (.int .i64 (20)))), (7, (.v (.int .i64 (s.2)))), (8, (.v (.int .i64 ((s.2 + 20 : Nat)))))], []⟩) (fun s => [.row 6 ((s.1).map Evt.r) g]) (fun s => n + 20 - s.2)
    (fun s => ∃ Dn Rs, s.1 = Dn ++ Rs ∧ s.2 = Dn.length ∧ (Dn ++ Rs).Perm l ∧ ∀ t, Blk leE 20 t → Blk leE 20 (Dn ++ t))
    (fun y => ∃ a : Nat, y.1 = .exit 0 ∧ y.2.1.marks = [] ∧ Ev.look y.2.1.vars 0 = some (.sl 0 g 0 n cl) ∧ Ev.look y.2.1.vars 1 = some (.v (.int .i64 (n))) ∧ Ev.look y.2.1.vars 2 = some (.fn (.func n_evkey_CompareEvents) [] []) ∧ Ev.look y.2.1.vars 6 = some (.v (.int .i64 (20))) ∧ Ev.look y.2.1.vars 7 = some (.v (.int .i64 (a))) ∧
        ∃ Dn Rs : List Evt, y.2.2 = [.row 6 ((Dn ++ Rs).map Evt.r) g] ∧ a = Dn.length ∧ (Dn ++ Rs).Perm l ∧ Rs.length < 20 ∧ ∀ t, Blk leE 20 t → Blk leE 20 (Dn ++ t)) ?_ (l, 0) ⟨[], l, rfl, rfl, .refl _, fun t h => h⟩
  · exact key
  rintro ⟨D, a⟩ ⟨Dn, Rs, hD, ha, hp, hB⟩
  simp only at hD ha ⊢
  have hl := hp.length_eq
  rw [List.length_append] at hl
  by_cases c : a + 20 ≤ n
  case neg =>
    have h1 : ¬ ((a + 20 : Nat) : Int) ≤ (n : Int) := by omega
    right
    simp only [c_slices_stableCmpFunc_api_SimEvent_L1, h1, Ev.exec, Ev.evOpers, Ev.evOper, Ev.item_op, Ev.evOp, Ev.Opnd.ev, Ev.Env.get, Ev.Env.set, Ev.look, Ev.bin_leq, ↓Ev.obind, Ev.it1, ↓reduceIte, Nat.reduceEqDiff, reduceCtorEq, decide_false, Bool.false_eq_true, eq_self]
    exact ⟨_, rfl, a, rfl, rfl, rfl, rfl, rfl, rfl, rfl, Dn, Rs, by rw [hD], ha, hp, by omega, hB⟩
  have h1 : ((a + 20 : Nat) : Int) ≤ (n : Int) := by omega
  obtain ⟨S, Q, rfl, hS⟩ : ∃ S Q, Rs = S ++ Q ∧ S.length = 20 := ⟨Rs.take 20, Rs.drop 20, (List.take_append_drop _ _).symm, by simp; omega⟩
  rw [List.length_append] at hl
  have hkD : KeysOk (Dn ++ (S ++ Q)) := hk.perm hp
  obtain ⟨S', p1, q1, r1⟩ := insertion_ev g cl n Dn S Q (by simp; omega) (by omega) hkD a (a + 20) ha (by omega)
  have w1 : IntKind.i64.wrap (((a + 20 : Nat) : Int) + 20) = ((a + 20 + 20 : Nat) : Int) := by rw [w64_small (by omega) (by omega)]; omega
  rw [← hD] at r1
  left
  refine ⟨(Dn ++ (S' ++ Q), a + 20), ?_, ⟨Dn ++ S', Q, by simp, ?_, ?_, ?_⟩, by simp only; omega⟩
  · simp only [c_slices_stableCmpFunc_api_SimEvent_L1, h1, w1, r1, evts_lo, Ev.exec, Ev.evOpers, Ev.evOper, Ev.item_op, Ev.item_I, Ev.evOp, Ev.evs, Ev.Opnd.ev, Ev.Env.get, Ev.Env.set, Ev.look, Ev.bin_add, Ev.bin_leq, Ev.settle, Ev.keep, Ev.varsLo, Ev.marksLo, Ev.storeLo, Ev.SObj.lo, Ev.lo_v, Ev.lo_sl, Ev.lo_fn, Ev.los_nil, ↓Ev.obind, Ev.it1, ↓reduceIte, List.take_succ_cons, List.take_nil, Nat.reduceEqDiff, reduceCtorEq, decide_true, Bool.and_self, and_self, Nat.lt_add_one, eq_self]
  · have := p1.length_eq; simp; omega
  · rw [List.append_assoc]; exact (List.Perm.append_left Dn (p1.append_right Q)).trans hp
  · intro t ht
    rw [List.append_assoc]
    exact hB _ (.more (by rw [p1.length_eq]; exact hS) q1 ht)
theorem stable_L3 (l D0 : List Evt) (hn : n = l.length) (hb : n < 2 ^ 58) (hk : KeysOk l) (s : Nat) (hs : 0 < s) (hsn : s < n) (hp0 : D0.Perm l) (hB0 : Blk leE s D0) :
    ∃ y, itB (exec (evL T) itL none c_slices_stableCmpFunc_api_SimEvent_L3) (Ev.settle [0, 1, 2, 6, 7, 8] true 1) ⟨[(0, .sl 0 g 0 n cl), (1, (.v (.int .i64 (n)))), (2, (.fn (.func n_evkey_CompareEvents) [] [])), (6, (.v (.int .i64 (s)))), (7, (.v (.int .i64 (0)))), (8, (.v (.int .i64 ((2 * s : Nat)))))], []⟩ [.row 6 ((D0).map Evt.r) g] = some y ∧
      ∃ a : Nat, y.1 = .exit 4 ∧ y.2.1.marks = [] ∧ Ev.look y.2.1.vars 0 = some (.sl 0 g 0 n cl) ∧ Ev.look y.2.1.vars 1 = some (.v (.int .i64 (n))) ∧ Ev.look y.2.1.vars 2 = some (.fn (.func n_evkey_CompareEvents) [] []) ∧ Ev.look y.2.1.vars 6 = some (.v (.int .i64 (s))) ∧ Ev.look y.2.1.vars 7 = some (.v (.int .i64 (a))) ∧
        ∃ Dn Rs : List Evt, y.2.2 = [.row 6 ((Dn ++ Rs).map Evt.r) g] ∧ a = Dn.length ∧ (Dn ++ Rs).Perm l ∧ Rs.length < 2 * s ∧ Blk leE s Rs ∧ ∀ t, Blk leE (2 * s) t → Blk leE (2 * s) (Dn ++ t) := by
  have key := itB_while (f := exec (evL T) itL none c_slices_stableCmpFunc_api_SimEvent_L3) (s := Ev.settle [0, 1, 2, 6, 7, 8] true 1) (τ := List Evt × Nat)
    (fun z => ⟨[(0, .sl 0 g 0 n cl), (1, (.v (.int .i64 (n)))), (2, (.fn (.func n_evkey_CompareEvents) [] [])), (6, (.v (.int .i64 (s)))), (7, (.v (.int .i64 (z.2)))), (8, (.v (.int .i64 ((z.2 + 2 * s : Nat)))))], []⟩) (fun z => [.row 6 ((z.1).map Evt.r) g]) (fun z => n + 2 * s - z.2)
    (fun z => ∃ Dn Rs, z.1 = Dn ++ Rs ∧ z.2 = Dn.length ∧ (Dn ++ Rs).Perm l ∧ Blk leE s Rs ∧ ∀ t, Blk leE (2 * s) t → Blk leE (2 * s) (Dn ++ t))
    (fun y => ∃ a : Nat, y.1 = .exit 4 ∧ y.2.1.marks = [] ∧ Ev.look y.2.1.vars 0 = some (.sl 0 g 0 n cl) ∧ Ev.look y.2.1.vars 1 = some (.v (.int .i64 (n))) ∧ Ev.look y.2.1.vars 2 = some (.fn (.func n_evkey_CompareEvents) [] []) ∧ Ev.look y.2.1.vars 6 = some (.v (.int .i64 (s))) ∧ Ev.look y.2.1.vars 7 = some (.v (.int .i64 (a))) ∧
        ∃ Dn Rs : List Evt, y.2.2 = [.row 6 ((Dn ++ Rs).map Evt.r) g] ∧ a = Dn.length ∧ (Dn ++ Rs).Perm l ∧ Rs.length < 2 * s ∧ Blk leE s Rs ∧ ∀ t, Blk leE (2 * s) t → Blk leE (2 * s) (Dn ++ t)) ?_ (D0, 0) ⟨[], D0, rfl, rfl, hp0, hB0, fun t h => h⟩
  · simp only [Nat.zero_add] at key; exact key
  rintro ⟨D, a⟩ ⟨Dn, Rs, hD, ha, hp, hR, hB⟩
  simp only at hD ha ⊢
  have hl := hp.length_eq
  rw [List.length_append] at hl
  by_cases c : a + 2 * s ≤ n
  case neg =>
    have h1 : ¬ ((a + 2 * s : Nat) : Int) ≤ (n : Int) := by omega
    right
    simp only [c_slices_stableCmpFunc_api_SimEvent_L3, h1, Ev.exec, Ev.evOpers, Ev.evOper, Ev.item_op, Ev.evOp, Ev.Opnd.ev, Ev.Env.get, Ev.Env.set, Ev.look, Ev.bin_leq, ↓Ev.obind, Ev.it1, ↓reduceIte, Nat.reduceEqDiff, reduceCtorEq, decide_false, Bool.false_eq_true, eq_self]
    exact ⟨_, rfl, a, rfl, rfl, rfl, rfl, rfl, rfl, rfl, Dn, Rs, by rw [hD], ha, hp, by omega, hR, hB⟩
  have h1 : ((a + 2 * s : Nat) : Int) ≤ (n : Int) := by omega
  obtain ⟨X, Y, Q, rfl, hX, hY, qX, qY, hQ⟩ : ∃ X Y Q, Rs = X ++ (Y ++ Q) ∧ X.length = s ∧ Y.length = s ∧ X.Pairwise leE ∧ Y.Pairwise leE ∧ Blk leE s Q := by
    obtain ⟨X, R1, rfl, h2, h3, h4⟩ := hR.split (by omega)
    rw [List.length_append] at hl
    by_cases c2 : R1.length ≤ s
    · exact ⟨X, R1, [], by simp, h2, by omega, h3, h4.sorted c2, .nil⟩
    · obtain ⟨Y, Q, rfl, h5, h6, h7⟩ := h4.split (by omega)
      exact ⟨X, Y, Q, rfl, h2, h5, h3, h6, h7⟩
  rw [List.length_append, List.length_append] at hl
  have hkD : KeysOk (Dn ++ (X ++ (Y ++ Q))) := hk.perm hp
  obtain ⟨Z, p1, q1, r1⟩ := symMerge_ev g cl n (by omega) _ Dn X Y Q (Nat.le_refl _) (by omega) (by omega) qX qY (by simp; omega) hkD a (a + s) (a + 2 * s) ha (by omega) (by omega)
  have w1 : IntKind.i64.wrap ((a : Int) + (s : Int)) = ((a + s : Nat) : Int) := w64_add (by omega)
  have w2 : IntKind.i64.wrap (2 * (s : Int)) = ((2 * s : Nat) : Int) := w64_mul2 (by omega)
  have w3 : IntKind.i64.wrap (((a + 2 * s : Nat) : Int) + ((2 * s : Nat) : Int)) = ((a + 2 * s + 2 * s : Nat) : Int) := w64_add (by omega)
  unfold MergeTo at r1
  rw [← hD] at r1
  have hz := p1.length_eq
  rw [List.length_append] at hz
  left
  refine ⟨(Dn ++ (Z ++ Q), a + 2 * s), ?_, ⟨Dn ++ Z, Q, by simp, ?_, ?_, hQ, ?_⟩, by simp only; omega⟩
  · simp only [c_slices_stableCmpFunc_api_SimEvent_L3, h1, w1, w2, w3, r1, evts_lo, Ev.exec, Ev.evOpers, Ev.evOper, Ev.item_op, Ev.item_I, Ev.evOp, Ev.evs, Ev.Opnd.ev, Ev.Env.get, Ev.Env.set, Ev.look, Ev.bin_add, Ev.bin_mul, Ev.bin_leq, Ev.settle, Ev.keep, Ev.varsLo, Ev.marksLo, Ev.storeLo, Ev.SObj.lo, Ev.lo_v, Ev.lo_sl, Ev.lo_fn, Ev.los_nil, ↓Ev.obind, Ev.it1, ↓reduceIte, List.take_succ_cons, List.take_nil, Nat.reduceEqDiff, reduceCtorEq, decide_true, Bool.and_self, and_self, Nat.lt_add_one, eq_self]
  · simp; omega
  · rw [List.append_assoc]
    refine (List.Perm.append_left Dn (p1.append_right Q)).trans ?_
    rw [List.append_assoc]; exact hp
  · intro t ht
    rw [List.append_assoc]
    exact hB _ (.more (by omega) q1 ht)
theorem stable_L2 (l D0 : List Evt) (hn : n = l.length) (hb : n < 2 ^ 58) (hk : KeysOk l) (hp0 : D0.Perm l) (hB0 : Blk leE 20 D0) :
    ∃ y, itB (exec (evL T) itL none c_slices_stableCmpFunc_api_SimEvent_L2) (Ev.settle [0, 1, 2, 6] true 1) ⟨[(0, .sl 0 g 0 n cl), (1, (.v (.int .i64 (n)))), (2, (.fn (.func n_evkey_CompareEvents) [] [])), (6, (.v (.int .i64 (20))))], []⟩ [.row 6 ((D0).map Evt.r) g] = some y ∧
      (y.1 = .exit 2 ∧ y.2.1.marks = [] ∧ ∃ l' : List Evt, y.2.2 = [.row 6 ((l').map Evt.r) g] ∧ l'.Perm l ∧ l'.Pairwise leE) := by
  have key := itB_while (f := exec (evL T) itL none c_slices_stableCmpFunc_api_SimEvent_L2) (s := Ev.settle [0, 1, 2, 6] true 1) (τ := List Evt × Nat)
    (fun z => ⟨[(0, .sl 0 g 0 n cl), (1, (.v (.int .i64 (n)))), (2, (.fn (.func n_evkey_CompareEvents) [] [])), (6, (.v (.int .i64 (z.2))))], []⟩) (fun z => [.row 6 ((z.1).map Evt.r) g]) (fun z => n - z.2)
    (fun z => z.1.Perm l ∧ 0 < z.2 ∧ Blk leE z.2 z.1)
    (fun y => y.1 = .exit 2 ∧ y.2.1.marks = [] ∧ ∃ l' : List Evt, y.2.2 = [.row 6 ((l').map Evt.r) g] ∧ l'.Perm l ∧ l'.Pairwise leE) ?_ (D0, 20) ⟨hp0, by simp, hB0⟩
  · exact key
  rintro ⟨D, s⟩ ⟨hp, hs, hB⟩
  simp only at hp hs hB ⊢
  have hl := hp.length_eq
  by_cases c : s < n
  case neg =>
    have h1 : ¬ (s : Int) < (n : Int) := by omega
    right
    simp only [c_slices_stableCmpFunc_api_SimEvent_L2, h1, Ev.exec, Ev.evOpers, Ev.evOper, Ev.item_op, Ev.evOp, Ev.Opnd.ev, Ev.Env.get, Ev.Env.set, Ev.look, Ev.bin_lss, ↓Ev.obind, Ev.it1, ↓reduceIte, Nat.reduceEqDiff, reduceCtorEq, decide_false, Bool.false_eq_true, eq_self]
    exact ⟨_, rfl, rfl, rfl, D, rfl, hp, hB.sorted (by omega)⟩
  have h1 : (s : Int) < (n : Int) := by omega
  obtain ⟨⟨y, e, σ⟩, k1, a, k2, k3, k4, k5, k6, k7, k8, Dn, Rs, k9, k10, k11, k12, k13, k14⟩ := stable_L3 g cl n l D hn hb hk s hs c hp hB
  simp only at k1 k2 k3 k4 k5 k6 k7 k8 k9
  subst k2; subst k9
  have hl2 := k11.length_eq
  rw [List.length_append] at hl2
  have w1 : IntKind.i64.wrap ((a : Int) + (s : Int)) = ((a + s : Nat) : Int) := w64_add (by omega)
  have w2 : IntKind.i64.wrap (2 * (s : Int)) = ((2 * s : Nat) : Int) := w64_mul2 (by omega)
  have w3 : IntKind.i64.wrap ((s : Int) * 2) = ((2 * s : Nat) : Int) := w64_mul2' (by omega)
  left
  by_cases c2 : a + s < n
  · have h2 : ((a + s : Nat) : Int) < (n : Int) := by omega
    obtain ⟨X, Y, rfl, hX, qX, hY⟩ := k13.split (by omega)
    rw [List.length_append] at hl2 k12
    have hkD : KeysOk (Dn ++ (X ++ (Y ++ []))) := by rw [List.append_nil]; exact hk.perm k11
    obtain ⟨Z, p1, q1, r1⟩ := symMerge_ev g cl n (by omega) _ Dn X Y [] (Nat.le_refl _) (by omega) (by omega) qX (hY.sorted (by omega)) (by simp; omega) hkD a (a + s) n k10 (by omega) (by omega)
    unfold MergeTo at r1
    simp only [List.append_nil] at r1
    have hz := p1.length_eq
    rw [List.length_append] at hz
    refine ⟨(Dn ++ Z, 2 * s), ?_, ⟨(List.Perm.append_left Dn p1).trans k11, by simp only; omega, k14 _ (.last (by omega) q1)⟩, by simp only; omega⟩
    simp only [c_slices_stableCmpFunc_api_SimEvent_L2, h1, h2, w1, w2, w3, k1, k3, k4, k5, k6, k7, k8, r1, evts_lo, Ev.exec, Ev.evOpers, Ev.evOper, Ev.item_op, Ev.item_I, Ev.evOp, Ev.evs, Ev.Opnd.ev, Ev.Env.get, Ev.Env.set, Ev.look, Ev.bin_add, Ev.bin_mul, Ev.bin_lss, Ev.settle, Ev.keep, Ev.varsLo, Ev.marksLo, Ev.storeLo, Ev.SObj.lo, Ev.lo_v, Ev.lo_sl, Ev.lo_fn, Ev.los_nil, ↓Ev.obind, ↓Ev.itL_itB, Ev.it1, ↓reduceIte, List.length_cons, List.length_nil, List.take_succ_cons, List.take_nil, Nat.reduceEqDiff, reduceCtorEq, decide_true, Bool.and_self, and_self, Nat.zero_add, Nat.lt_add_one, eq_self]
  · have h2 : ¬ ((a + s : Nat) : Int) < (n : Int) := by omega
    refine ⟨(Dn ++ Rs, 2 * s), ?_, ⟨k11, by simp only; omega, k14 _ (.last (by omega) (k13.sorted (by omega)))⟩, by simp only; omega⟩
    simp only [c_slices_stableCmpFunc_api_SimEvent_L2, h1, h2, w1, w2, w3, k1, k3, k4, k5, k6, k7, k8, evts_lo, Ev.exec, Ev.evOpers, Ev.evOper, Ev.item_op, Ev.evOp, Ev.Opnd.ev, Ev.Env.get, Ev.Env.set, Ev.look, Ev.bin_add, Ev.bin_mul, Ev.bin_lss, Ev.settle, Ev.keep, Ev.varsLo, Ev.marksLo, Ev.storeLo, Ev.SObj.lo, Ev.lo_v, Ev.lo_sl, Ev.lo_fn, Ev.los_nil, ↓Ev.obind, ↓Ev.itL_itB, Ev.it1, ↓reduceIte, List.length_cons, List.length_nil, List.take_succ_cons, List.take_nil, Nat.reduceEqDiff, reduceCtorEq, decide_true, decide_false, Bool.and_self, Bool.false_eq_true, and_self, Nat.zero_add, Nat.lt_add_one, eq_self]
theorem stable_ev (l : List Evt) (hn : n = l.length) (hb : n < 2 ^ 58) (hk : KeysOk l) :
    ∃ l' : List Evt, l'.Perm l ∧ l'.Pairwise leE ∧ (evL T).call n_slices_stableCmpFunc_api_SimEvent [.sl 0 g 0 n cl, (.v (.int .i64 (n))), (.fn (.func n_evkey_CompareEvents) [] [])] [.row 6 ((l).map Evt.r) g] = some (.tup [], [.row 6 ((l').map Evt.r) g]) := by
  obtain ⟨⟨y, e, σ⟩, k1, a, k2, k3, k4, k5, k6, k7, k8, Dn, Rs, k9, k10, k11, k12, k13⟩ := stable_L1 g cl n l hn hb hk
  simp only at k1 k2 k3 k4 k5 k6 k7 k8 k9
  subst k2; subst k9
  have hl := k11.length_eq
  rw [List.length_append] at hl
  obtain ⟨R', p1, q1, r1⟩ := insertion_ev g cl n Dn Rs [] (by simp; omega) (by omega) (by rw [List.append_nil]; exact hk.perm k11) a n k10 (by omega)
  simp only [List.append_nil] at r1
  obtain ⟨⟨y', e', σ'⟩, l1, l2, l3, l', l4, l5, l6⟩ := stable_L2 g cl n l (Dn ++ R') hn hb hk ((List.Perm.append_left Dn p1).trans k11) (k13 _ (.last (by rw [p1.length_eq]; omega) q1))
  simp only at l1 l2 l3 l4
  subst l2; subst l4
  refine ⟨l', l5, l6, ?_⟩
  rw [evL_code ext_slices_stableCmpFunc_api_SimEvent code_slices_stableCmpFunc_api_SimEvent]
  simp only [c_slices_stableCmpFunc_api_SimEvent, k1, k3, k4, k5, k6, k7, k8, r1, l1, l3, evts_lo, Ev.runFunc, Ev.exec, Ev.evOpers, Ev.evOper, Ev.item_op, Ev.item_I, Ev.evOp, Ev.evs, Ev.Opnd.ev, Ev.Env.get, Ev.Env.set, Ev.look, Ev.argVars, Ev.resVals, Ev.resOf, Ev.kill, Ev.leave, Ev.settle, Ev.keep, Ev.varsLo, Ev.marksLo, Ev.storeLo, Ev.SObj.lo, Ev.lo_v, Ev.lo_tup, Ev.lo_sl, Ev.lo_fn, Ev.los_nil, ↓Ev.obind, ↓Ev.itL_itB, ↓reduceIte, List.length_cons, List.length_nil, List.take_succ_cons, List.take_nil, Nat.reduceAdd, Nat.reduceEqDiff, reduceCtorEq, decide_true, Bool.and_self, and_self, Nat.zero_add, Nat.lt_add_one, eq_self]
theorem sortStable_ev (l : List Evt) (hn : n = l.length) (hb : n < 2 ^ 58) (hk : KeysOk l) :
    ∃ l' : List Evt, l'.Perm l ∧ l'.Pairwise leE ∧ (evL T).call n_slices_SortStableFunc_Lapi_SimEvent_api_SimEvent [.sl 0 g 0 n cl, (.fn (.func n_evkey_CompareEvents) [] [])] [.row 6 ((l).map Evt.r) g] = some (.tup [], [.row 6 ((l').map Evt.r) g]) := by
  obtain ⟨l', h1, h2, h3⟩ := stable_ev g cl n l hn hb hk
  refine ⟨l', h1, h2, ?_⟩
  rw [evL_code ext_slices_SortStableFunc_Lapi_SimEvent_api_SimEvent code_slices_SortStableFunc_Lapi_SimEvent_api_SimEvent]
  simp only [c_slices_SortStableFunc_Lapi_SimEvent_api_SimEvent, h3, evts_lo, Ev.runFunc, Ev.exec, Ev.evOpers, Ev.evOper, Ev.item_op, Ev.item_I, Ev.evOp, Ev.evs, Ev.Opnd.ev, Ev.Env.get, Ev.Env.set, Ev.look, Ev.argVars, Ev.resVals, Ev.resOf, Ev.kill, Ev.leave, Ev.storeLo, Ev.SObj.lo, Ev.lo_tup, Ev.los_nil, ↓Ev.obind, ↓reduceIte, List.length_cons, List.length_nil, List.take_succ_cons, List.take_nil, Nat.reduceAdd, Nat.reduceEqDiff, reduceCtorEq, Bool.and_self, and_self, Nat.zero_add, eq_self]
end
end Go.Proofs.Ythkjkdbjgpeigaa.K
namespace Go.Proofs.Ythkjkdbjgpeigaa.K
open Go.Ev
set_option linter.unusedSimpArgs false
set_option linter.unusedVariables false
set_option maxRecDepth 10000
def sortL (l : List Evt) : List Evt := l.mergeSort (fun a b => decide (cmpE a b ≤ 0))
def Dist (l : List Evt) : Prop := l.Pairwise (fun a b => ¬ cmpE a b = 0)
theorem sortL_perm (l : List Evt) : (sortL l).Perm l := List.mergeSort_perm _ _
theorem sortL_sorted (l : List Evt) : (sortL l).Pairwise leE := by
  have := List.pairwise_mergeSort (le := fun a b => decide (cmpE a b ≤ 0)) (fun a b c h1 h2 => by simp only [decide_eq_true_eq] at h1 h2 ⊢; exact leE_trans a b c h1 h2) (fun a b => by
    have := cmpE_neg a b
    by_cases h : cmpE a b ≤ 0
    · simp [h]
    · have : cmpE b a ≤ 0 := by omega
      simp [this]) l
  exact this.imp (fun h => of_decide_eq_true h)
theorem Dist.eq {l : List Evt} (h : Dist l) {a b : Evt} (ha : a ∈ l) (hb : b ∈ l) (hc : cmpE a b = 0) : a = b := by
  obtain ⟨i, hi⟩ := List.mem_iff_getElem?.1 ha
  obtain ⟨j, hj⟩ := List.mem_iff_getElem?.1 hb
  obtain ⟨hi', rfl⟩ := List.getElem?_eq_some_iff.1 hi
  obtain ⟨hj', rfl⟩ := List.getElem?_eq_some_iff.1 hj
  rw [Dist, List.pairwise_iff_getElem] at h
  rcases Nat.lt_trichotomy i j with c | c | c
  · exact absurd hc (h i j hi' hj' c)
  · subst c; rfl
  · exact absurd (by rw [cmpE_neg]; omega) (h j i hj' hi' c)
theorem sortL_unique {l l' : List Evt} (hd : Dist l) (hp : l'.Perm l) (hs : l'.Pairwise leE) : l' = sortL l := by
  refine List.Perm.eq_of_pairwise (le := leE) (fun a b ha hb h1 h2 => ?_) hs (sortL_sorted l) (hp.trans (sortL_perm l).symm)
  refine hd.eq (hp.mem_iff.1 ha) ((sortL_perm l).mem_iff.1 hb) ?_
  have := cmpE_neg a b
  unfold leE at h1 h2; omega
theorem Dist.perm {l l' : List Evt} (h : Dist l) (p : l'.Perm l) : Dist l' := (p.pairwise_iff (fun {x y} hxy hyx => hxy (by rw [cmpE_neg]; omega))).2 h
theorem clone_evts_ev (l : List Evt) (c : Bool) (h : l.length ≤ 1000000) : (evL T).call n_slices_Clone_Lapi_SimEvent_api_SimEvent [(.fsl ((l).map Evt.r) c)] [] = some (.sl 0 0 0 l.length false, [.row 6 (l.map Evt.r) 0]) := by
  have h' : l.length * 64 ≤ 140737488355328 := by omega
  rw [evL_ext ext_slices_Clone_Lapi_SimEvent_api_SimEvent]
  simp only [cloneF, evts_lo, evts_ok, h', Ev.lo_fsl, Ev.los_nil, Ev.los_cons, List.length_map, ↓reduceIte, Nat.reduceLT, Nat.reducePow, Bool.and_self, and_self, eq_self]
theorem evkey_SortEvents_ev (l : List Evt) (c : Bool) (h : l.length ≤ 1000000) (hk : KeysOk l) : ∃ l' : List Evt, l'.Perm l ∧ l'.Pairwise leE ∧ callZ (evL T) n_evkey_SortEvents [(.fsl ((l).map Evt.r) c)] = some (.fsl ((l').map Evt.r) false) := by
  have hcl := clone_evts_ev l c h
  obtain ⟨l', h1, h2, h3⟩ := sortStable_ev 0 false l.length l rfl (by omega) hk
  refine ⟨l', h1, h2, ?_⟩
  have hlen := h1.length_eq
  rw [callZ, evL_code ext_evkey_SortEvents code_evkey_SortEvents]
  rw [← hlen] at hcl h3
  simp only [c_evkey_SortEvents, hcl, h3, evts_lo, Ev.runFunc, Ev.exec, Ev.evOpers, Ev.evOper, Ev.item_op, Ev.item_A, Ev.item_I, Ev.impO, Ev.AV.shift, Ev.evOp, Ev.evs, Ev.Opnd.ev, Ev.Env.get, Ev.Env.set, Ev.look, Ev.argVars, Ev.resVals, Ev.resVal, Ev.resOf, Ev.kill, Ev.leave, Ev.storeLo, Ev.lo_fsl, Ev.lo_sl, Ev.los_nil, Ev.los_cons, Ev.frz_own, Ev.omap_los, Ev.omap_nil, Ev.omap_cons, Ev.shiftss_lo, Ev.take_map_len, List.length_map, ↓Ev.obind, ↓reduceIte, List.length_cons, List.length_nil, List.getElem?_cons_zero, List.take_zero, List.drop_zero, List.nil_append, Nat.reduceEqDiff, Nat.reduceLT, reduceCtorEq, decide_false, Bool.and_self, Bool.false_eq_true, and_self, and_true, Nat.zero_add, Nat.add_zero, Nat.le_refl, eq_self]
theorem evkey_SortEvents_evD (l : List Evt) (c : Bool) (h : l.length ≤ 1000000) (hk : KeysOk l) (hd : Dist l) : callZ (evL T) n_evkey_SortEvents [(.fsl ((l).map Evt.r) c)] = some (.fsl ((sortL l).map Evt.r) false) := by
  obtain ⟨l', h1, h2, h3⟩ := evkey_SortEvents_ev l c h hk
  rw [← sortL_unique hd h1 h2]; exact h3
theorem ref03_CompareEvents_ev (x y : Evt) (hx : x.key.length ≤ 9223372036854775807) (hy : y.key.length ≤ 9223372036854775807) : callZ (evL T) n_ref03_CompareEvents [(.agg [(.v (.int .i64 (x.time))), (.fsl ((x.key).map intC) false), (.v (.int .i64 (x.lp))), (.v (.int .i64 (x.kind))), (.v (.int .i64 (x.proc))), (.v (.int .i64 (x.arg)))]), (.agg [(.v (.int .i64 (y.time))), (.fsl ((y.key).map intC) false), (.v (.int .i64 (y.lp))), (.v (.int .i64 (y.kind))), (.v (.int .i64 (y.proc))), (.v (.int .i64 (y.arg)))])] = some (.v (.int .i64 (cmpE x y))) := by
  obtain ⟨xt, xk, xl, xi, xp, xa⟩ := x
  obtain ⟨yt, yk, yl, yi, yp, ya⟩ := y
  have hc := ref03_Compare_ev xt yt
  have hk := CompareKeys_ev xk yk false false hx hy
  have hz := (cmpZ_cases xt yt).2.1
  rw [callZ, evL_code ext_ref03_CompareEvents code_ref03_CompareEvents]
  by_cases h : xt = yt
  · subst h
    have h0 : cmpZ xt xt = 0 := hz.2 rfl
    simp only [c_ref03_CompareEvents, cmpE, h0, hk, ints_lo, Ev.runFunc, Ev.exec, Ev.evOpers, Ev.evOper, Ev.item_op, Ev.item_P, Ev.evOp, Ev.evs, Ev.Opnd.ev, Ev.Env.get, Ev.Env.set, Ev.look, Ev.argVars, Ev.cellsAt, Ev.loadC, Ev.AV.cells, Ev.plains, Ev.AV.plain, Ev.bin_neq, Ev.resVals, Ev.resVal, Ev.resOf, Ev.kill, Ev.leave, Ev.storeLo, Ev.lo_v, Ev.lo_fsl, Ev.los_nil, Ev.los_cons, Ev.frz_lo, ↓Ev.obind, ↓reduceIte, List.length_cons, List.length_nil, List.take_nil, List.drop_succ_cons, List.drop_zero, List.head?_cons, Nat.reduceAdd, Nat.reduceEqDiff, reduceCtorEq, decide_false, Bool.and_self, Bool.false_eq_true, and_self, ne_eq, not_false_eq_true, not_true_eq_false, List.cons_ne_nil, Nat.zero_add, eq_self]
  · have h0 : ¬ cmpZ xt yt = 0 := fun e => h (hz.1 e)
    simp only [c_ref03_CompareEvents, cmpE, h0, h, hc, Ev.runFunc, Ev.exec, Ev.evOpers, Ev.evOper, Ev.item_op, Ev.item_P, Ev.evOp, Ev.evs, Ev.Opnd.ev, Ev.Env.get, Ev.Env.set, Ev.look, Ev.argVars, Ev.cellsAt, Ev.loadC, Ev.AV.cells, Ev.plains, Ev.AV.plain, Ev.bin_neq, Ev.resVals, Ev.resVal, Ev.resOf, Ev.kill, Ev.leave, Ev.storeLo, Ev.lo_v, Ev.los_nil, Ev.los_cons, Ev.frz_lo, ↓Ev.obind, ↓reduceIte, List.length_cons, List.length_nil, List.take_nil, List.drop_zero, List.head?_cons, Nat.reduceAdd, Nat.reduceEqDiff, reduceCtorEq, decide_true, Bool.and_self, Bool.false_eq_true, and_self, ne_eq, not_false_eq_true, List.cons_ne_nil, Nat.zero_add, eq_self]
end Go.Proofs.Ythkjkdbjgpeigaa.K
namespace Go.Proofs.Ythkjkdbjgpeigaa.K
open Go.Ev
set_option linter.unusedSimpArgs false
set_option linter.unusedVariables false
set_option maxRecDepth 10000
def initEv (k i : Nat) (s : Start) : Evt := ⟨s.time, [(k : Int), (i : Int)], k, 1, i, 0⟩
def initLp (k : Nat) (l : List Start) : List Evt := l.mapIdx (fun i s => initEv k i s)
def initL (lps : List (List Start)) : List Evt := (lps.mapIdx (fun k l => initLp k l)).flatten
theorem initLp_snoc (k : Nat) (l : List Start) (s : Start) : initLp k (l ++ [s]) = initLp k l ++ [initEv k l.length s] := by simp [initLp, List.mapIdx_append]
theorem initL_snoc (lps : List (List Start)) (l : List Start) : initL (lps ++ [l]) = initL lps ++ initLp lps.length l := by simp [initL, List.mapIdx_append]
theorem initLp_len (k : Nat) (l : List Start) : (initLp k l).length = l.length := by simp [initLp]
theorem initLp_mem {k : Nat} {l : List Start} {x : Evt} (h : x ∈ initLp k l) : ∃ i s, l[i]? = some s ∧ x = initEv k i s := by
  simp only [initLp] at h
  obtain ⟨i, hi⟩ := List.mem_iff_getElem?.1 h
  rw [List.getElem?_mapIdx] at hi
  cases hl : l[i]? with
  | none => rw [hl] at hi; cases hi
  | some s => rw [hl] at hi; cases hi; exact ⟨i, s, hl, rfl⟩
theorem initL_mem {lps : List (List Start)} {x : Evt} (h : x ∈ initL lps) : ∃ k l i s, lps[k]? = some l ∧ l[i]? = some s ∧ x = initEv k i s := by
  simp only [initL, List.mem_flatten] at h
  obtain ⟨r, hr, hx⟩ := h
  obtain ⟨k, hk⟩ := List.mem_iff_getElem?.1 hr
  rw [List.getElem?_mapIdx] at hk
  cases hl : lps[k]? with
  | none => rw [hl] at hk; cases hk
  | some l =>
    rw [hl] at hk; cases hk
    obtain ⟨i, s, h1, h2⟩ := initLp_mem hx
    exact ⟨k, l, i, s, hl, h1, h2⟩
theorem initL_keys (lps : List (List Start)) : KeysOk (initL lps) := by
  intro x hx
  obtain ⟨k, l, i, s, _, _, rfl⟩ := initL_mem hx
  simp [initEv]
theorem initEv_ne {k k' i i' : Nat} {s s' : Start} (h : cmpE (initEv k i s) (initEv k' i' s') = 0) : k = k' ∧ i = i' := by
  have := ((cmpE_zero _ _).1 h).2
  simp only [initEv, List.cons.injEq, and_true] at this
  omega
theorem initL_dist (lps : List (List Start)) : Dist (initL lps) := by
  unfold Dist initL
  rw [List.pairwise_flatten]
  constructor
  · intro r hr
    obtain ⟨k, hk⟩ := List.mem_iff_getElem?.1 hr
    rw [List.getElem?_mapIdx] at hk
    cases hl : lps[k]? with
    | none => rw [hl] at hk; cases hk
    | some l =>
      rw [hl] at hk; cases hk
      rw [List.pairwise_iff_getElem]
      intro i j hi hj hij h
      simp only [initLp, List.getElem_mapIdx] at h
      have := (initEv_ne h).2; omega
  · rw [List.pairwise_iff_getElem]
    intro k k' hk hk' hkk x hx y hy h
    simp only [List.getElem_mapIdx] at hx hy
    obtain ⟨i, s, _, rfl⟩ := initLp_mem hx
    obtain ⟨i', s', _, rfl⟩ := initLp_mem hy
    have := (initEv_ne h).1; omega
theorem initLp_take {k i : Nat} {l : List Start} {s : Start} (h : l[i]? = some s) : initLp k (l.take (i + 1)) = initLp k (l.take i) ++ [initEv k i s] := by
  have hi : i < l.length := (List.getElem?_eq_some_iff.1 h).1
  rw [take_next h, initLp_snoc, List.length_take, Nat.min_eq_left (by omega)]
theorem initL_take {k : Nat} {lps : List (List Start)} {l : List Start} (h : lps[k]? = some l) : initL (lps.take (k + 1)) = initL (lps.take k) ++ initLp k l := by
  have hi : k < lps.length := (List.getElem?_eq_some_iff.1 h).1
  rw [take_next h, initL_snoc, List.length_take, Nat.min_eq_left (by omega)]
theorem initL_len : ∀ {lps : List (List Start)} {m : Nat}, (∀ l ∈ lps, l.length ≤ m) → (initL lps).length ≤ lps.length * m := by
  intro lps m h
  have : ∀ n, n ≤ lps.length → (initL (lps.take n)).length ≤ n * m := by
    intro n
    induction n with
    | zero => intro _; simp [initL]
    | succ n ih =>
      intro hn
      obtain ⟨l, hl⟩ : ∃ l, lps[n]? = some l := ⟨_, List.getElem?_eq_getElem (by omega)⟩
      rw [initL_take hl, List.length_append, initLp_len, Nat.succ_mul]
      have := ih (by omega)
      have := h l (List.mem_of_getElem? hl)
      omega
  have := this lps.length (Nat.le_refl _)
  rwa [List.take_length] at this
section
variable (c : Cfg)
theorem app_evts_len (out : List Evt) (e : List AV) : List.take out.length (out.map Evt.r) = out.map Evt.r ∧ List.take (out.length + 1) (out.map Evt.r ++ [e]) = out.map Evt.r ++ [e] := ⟨List.take_of_length_le (by simp), List.take_of_length_le (by simp)⟩
theorem init_inner (k : Nat) (l : List Start) (o0 : List Evt) (g0 : Nat) (hl : l.length ≤ 12) (hk : k ≤ 12) (ho : o0.length ≤ 1000) (n : Int) :
    ∃ y, itB (exec (evL T) itL none c_config_Initial_L2) (Ev.settle [3, 4, 9, 10, 11, 16, 17, 18] true 1) ⟨[(3, .sl 0 g0 0 o0.length false), (4, (.v (.int .i64 (k)))), (9, (.fsl ((c.lps).map lpC) false)), (10, (.v (.int .i64 (n)))), (11, (.v (.int .i64 (k)))), (16, (.fsl ((l).map Start.r) false)), (17, (.v (.int .i64 (l.length)))), (18, (.v (.int .i64 (0))))], []⟩ [.row 6 (o0.map Evt.r) g0] = some y ∧
      ∃ g : Nat, y.1 = .exit 2 ∧ y.2.1.marks = [] ∧ y.2.2 = [.row 6 ((o0 ++ initLp k l).map Evt.r) g] ∧ Ev.look y.2.1.vars 3 = some (.sl 0 g 0 (o0 ++ initLp k l).length false) ∧ Ev.look y.2.1.vars 9 = some (.fsl ((c.lps).map lpC) false) ∧ Ev.look y.2.1.vars 10 = some (.v (.int .i64 (n))) ∧ Ev.look y.2.1.vars 11 = some (.v (.int .i64 (k))) := by
  have key := itB_for (f := exec (evL T) itL none c_config_Initial_L2) (s := Ev.settle [3, 4, 9, 10, 11, 16, 17, 18] true 1) (α := List Evt × Nat)
    (fun i a => ⟨[(3, .sl 0 a.2 0 a.1.length false), (4, (.v (.int .i64 (k)))), (9, (.fsl ((c.lps).map lpC) false)), (10, (.v (.int .i64 (n)))), (11, (.v (.int .i64 (k)))), (16, (.fsl ((l).map Start.r) false)), (17, (.v (.int .i64 (l.length)))), (18, (.v (.int .i64 (i))))], []⟩) (fun i a => [.row 6 (a.1.map Evt.r) a.2])
    (fun i a => a.1 = o0 ++ initLp k (l.take i)) l.length
    (fun y => ∃ g : Nat, y.1 = .exit 2 ∧ y.2.1.marks = [] ∧ y.2.2 = [.row 6 ((o0 ++ initLp k l).map Evt.r) g] ∧ Ev.look y.2.1.vars 3 = some (.sl 0 g 0 (o0 ++ initLp k l).length false) ∧ Ev.look y.2.1.vars 9 = some (.fsl ((c.lps).map lpC) false) ∧ Ev.look y.2.1.vars 10 = some (.v (.int .i64 (n))) ∧ Ev.look y.2.1.vars 11 = some (.v (.int .i64 (k)))) ?_ ?_ 0 (o0, g0) (Nat.zero_le _) (by simp [initLp])
  · exact key
  · rintro i ⟨out, g⟩ hi hout
    simp only at hout ⊢
    obtain ⟨x, hx⟩ : ∃ x, l[i]? = some x := ⟨_, List.getElem?_eq_getElem hi⟩
    have hi' : (i : Int) < (l.length : Int) := by omega
    have hw : IntKind.i64.wrap ((i : Int) + 1) = ((i + 1 : Nat) : Int) := by rw [w64_small (by omega) (by omega)]; simp
    have ho2 : out.length ≤ 1012 := by rw [hout, List.length_append, initLp_len]; have := List.length_take_le i l; omega
    have hb : (out.length + 1) * 64 ≤ 140737488355328 := by omega
    have hcd := evkey_Child_ev [(k : Int)] true i (by simp)
    simp only [List.map_cons, List.map_nil, intC] at hcd
    obtain ⟨t1, t2⟩ := app_evts_len out (initEv k i x).r
    have hr : (out ++ [initEv k i x]).map Evt.r = out.map Evt.r ++ [(initEv k i x).r] := by rw [List.map_append]; rfl
    refine .inl ⟨(out ++ [initEv k i x], g + 1), ?_, by simp only; rw [initLp_take hx, hout, List.append_assoc]⟩
    have hlo := evts_lo 1 (out ++ [initEv k i x])
    simp only
    rw [hr, List.length_append]
    rw [hr] at hlo
    have hil : ∀ n, loss n ([(k : Int), (i : Int)].map intC) = true := fun n => ints_lo n _
    simp only [initEv, Evt.r] at t2 hlo ⊢
    have hcd2 : ([(k : Int)] ++ [(i : Int)]).map intC = [(k : Int), (i : Int)].map intC := rfl
    rw [hcd2] at hcd
    generalize [(k : Int), (i : Int)].map intC = kl at hcd hlo t2 hil ⊢
    simp only [c_config_Initial_L2, Int.natCast_nonneg, Int.toNat_natCast, List.getElem?_map, Option.map_some, hx, hi', hw, hcd, hb, t1, hlo, Start.r, lps_lo, starts_lo, Ev.exec, Ev.evOpers, Ev.evOper, Ev.item_op, Ev.item_P, Ev.evOp, Ev.appE, Ev.evs, Ev.Opnd.ev, Ev.Env.get, Ev.Env.set, Ev.look, Ev.cellsAt, Ev.content, Ev.loadC, Ev.fillP, Ev.fillR, Ev.AV.cells, Ev.AV.uc, Ev.plains, Ev.AV.plain, Ev.bin_add, Ev.bin_lss, Ev.settle, Ev.keep, Ev.varsLo, Ev.marksLo, Ev.storeLo, Ev.SObj.lo, Ev.lo_v, Ev.lo_fsl, Ev.lo_sl, Ev.los_nil, Ev.los_cons, Ev.loss_nil, Ev.loss_cons, Ev.okRows_nil, Ev.okRows_cons, List.replicate_one, List.length_map, ↓Ev.obind, Ev.it1, ↓reduceIte, List.length_cons, List.length_nil, List.getElem?_cons_zero, List.getElem?_cons_succ, List.take_succ_cons, List.take_zero, List.take_nil, List.drop_succ_cons, List.drop_zero, List.drop_nil, List.cons_append, List.nil_append, List.append_nil, List.set_cons_zero, List.set_cons_succ, List.head?_cons, Nat.reduceAdd, Nat.reduceEqDiff, Nat.reduceMul, Nat.reduceLeDiff, Nat.reducePow, decide_true, Bool.and_self, Bool.false_eq_true, and_self, ne_eq, not_false_eq_true, List.cons_ne_nil, Nat.zero_add, Nat.lt_add_one, Nat.le_refl, eq_self]
  · rintro ⟨out, g⟩ hout
    rw [List.take_length] at hout
    simp only at hout ⊢
    simp only [c_config_Initial_L2, Int.lt_irrefl, Ev.exec, Ev.evOpers, Ev.evOper, Ev.item_op, Ev.evOp, Ev.Opnd.ev, Ev.Env.get, Ev.Env.set, Ev.look, Ev.bin_lss, ↓Ev.obind, Ev.it1, ↓reduceIte, List.length_append, Nat.reduceEqDiff, decide_false, Bool.false_eq_true, eq_self]
    exact ⟨_, rfl, g, rfl, rfl, by rw [hout], by rw [hout, List.length_append]; rfl, rfl, rfl, rfl⟩
end
end Go.Proofs.Ythkjkdbjgpeigaa.K
namespace Go.Proofs.Ythkjkdbjgpeigaa.K
open Go.Ev
set_option linter.unusedSimpArgs false
set_option linter.unusedVariables false
set_option maxRecDepth 10000
section
variable (c : Cfg)
structure Small12 (c : Cfg) : Prop where
  lps : c.lps.length ≤ 12
  lp : ∀ l ∈ c.lps, l.length ≤ 12
theorem Small12.len {c : Cfg} (h : Small12 c) (k : Nat) : (initL (c.lps.take k)).length ≤ 144 := by
  have := initL_len (lps := c.lps.take k) (m := 12) (fun l hl => h.lp l (List.mem_of_mem_take hl))
  have := List.length_take_le k c.lps
  have := List.length_take_le' k c.lps
  have := h.lps
  omega
theorem init_outer (h : Small12 c) :
    ∃ y, itB (exec (evL T) itL none c_config_Initial_L1) (Ev.settle [3, 9, 10, 11] true 1) ⟨[(3, .sl 0 0 0 0 false), (9, (.fsl ((c.lps).map lpC) false)), (10, (.v (.int .i64 (c.lps.length)))), (11, (.v (.int .i64 (0))))], []⟩ [.row 6 [] 0] = some y ∧
      ∃ g : Nat, y.1 = .exit 0 ∧ y.2.1.marks = [] ∧ y.2.2 = [.row 6 ((initL c.lps).map Evt.r) g] ∧ Ev.look y.2.1.vars 3 = some (.sl 0 g 0 (initL c.lps).length false) := by
  have key := itB_for (f := exec (evL T) itL none c_config_Initial_L1) (s := Ev.settle [3, 9, 10, 11] true 1) (α := List Evt × Nat)
    (fun i a => ⟨[(3, .sl 0 a.2 0 a.1.length false), (9, (.fsl ((c.lps).map lpC) false)), (10, (.v (.int .i64 (c.lps.length)))), (11, (.v (.int .i64 (i))))], []⟩) (fun i a => [.row 6 (a.1.map Evt.r) a.2])
    (fun i a => a.1 = initL (c.lps.take i)) c.lps.length
    (fun y => ∃ g : Nat, y.1 = .exit 0 ∧ y.2.1.marks = [] ∧ y.2.2 = [.row 6 ((initL c.lps).map Evt.r) g] ∧ Ev.look y.2.1.vars 3 = some (.sl 0 g 0 (initL c.lps).length false)) ?_ ?_ 0 ([], 0) (Nat.zero_le _) (by simp [initL])
  · exact key
  · rintro i ⟨out, g⟩ hi hout
    simp only at hout ⊢
    obtain ⟨x, hx⟩ : ∃ x, c.lps[i]? = some x := ⟨_, List.getElem?_eq_getElem hi⟩
    have hlps := h.lps
    have hi' : (i : Int) < (c.lps.length : Int) := by omega
    have hw : IntKind.i64.wrap ((i : Int) + 1) = ((i + 1 : Nat) : Int) := by rw [w64_small (by omega) (by omega)]; simp
    have hl := h.len i
    obtain ⟨⟨y, e, σ⟩, k1, g', k2, k3, k4, k5, k6, k7, k8⟩ := init_inner c i x out g (h.lp _ (List.mem_of_getElem? hx)) (by omega) (by rw [hout]; omega) c.lps.length
    simp only at k1 k2 k3 k4 k5 k6 k7 k8
    subst k2; subst k4
    refine .inl ⟨(out ++ initLp i x, g'), ?_, by simp only; rw [initL_take hx, hout]⟩
    simp only [List.length_append] at k5 ⊢
    simp only [c_config_Initial_L1, Int.natCast_nonneg, Int.toNat_natCast, List.getElem?_map, Option.map_some, hx, hi', hw, k1, k3, k5, k6, k7, k8, lpC, evts_lo, lps_lo, starts_lo, Ev.exec, Ev.evOpers, Ev.evOper, Ev.item_op, Ev.evOp, Ev.Opnd.ev, Ev.Env.get, Ev.Env.set, Ev.look, Ev.cellsAt, Ev.loadC, Ev.bin_add, Ev.bin_lss, Ev.settle, Ev.keep, Ev.varsLo, Ev.marksLo, Ev.storeLo, Ev.SObj.lo, Ev.lo_v, Ev.lo_fsl, Ev.lo_sl, List.length_map, ↓Ev.obind, ↓Ev.itL_itB, Ev.it1, ↓reduceIte, List.length_cons, List.length_nil, List.take_succ_cons, List.take_nil, List.head?_cons, Nat.reduceEqDiff, decide_true, Bool.and_self, Bool.false_eq_true, and_self, Nat.zero_add, Nat.lt_add_one, eq_self]
  · rintro ⟨out, g⟩ hout
    rw [List.take_length] at hout
    simp only at hout ⊢
    simp only [c_config_Initial_L1, Int.lt_irrefl, Ev.exec, Ev.evOpers, Ev.evOper, Ev.item_op, Ev.evOp, Ev.Opnd.ev, Ev.Env.get, Ev.Env.set, Ev.look, Ev.bin_lss, ↓Ev.obind, Ev.it1, ↓reduceIte, Nat.reduceEqDiff, decide_false, Bool.false_eq_true, eq_self]
    exact ⟨_, rfl, g, rfl, rfl, by rw [hout], by rw [hout]; rfl⟩
theorem config_Initial_ev (h : Small12 c) : callZ (evL T) n_config_Initial [(.agg [(.fsl ((c.lps).map lpC) false), (.fsl ((c.progs).map progC) false), (.v (.int .i64 (c.look))), (.v (.int .i64 (c.fin))), (.v (.int .i64 (c.cap)))])] = some (.fsl ((sortL (initL c.lps)).map Evt.r) false) := by
  obtain ⟨⟨y, e, σ⟩, k1, g, k2, k3, k4, k5⟩ := init_outer c h
  simp only at k1 k2 k3 k4 k5
  subst k2; subst k4
  have hl := h.len c.lps.length
  rw [List.take_length] at hl
  have hs := evkey_SortEvents_evD (initL c.lps) false (by omega) (initL_keys _) (initL_dist _)
  have t1 := (app_evts_len (initL c.lps) []).1
  have h0 : (0 : Int) = ((0 : Nat) : Int) := rfl
  rw [callZ, evL_code ext_config_Initial code_config_Initial]
  simp only [c_config_Initial, k1, k3, k5, hs, t1, evts_lo, lps_lo, Ev.runFunc, Ev.exec, Ev.evOpers, Ev.evOper, Ev.item_op, Ev.item_P, Ev.evOp, Ev.evs, Ev.Opnd.ev, Ev.Env.get, Ev.Env.set, Ev.look, Ev.argVars, Ev.cellsAt, Ev.loadC, Ev.AV.cells, Ev.plains, Ev.AV.plain, Ev.resVals, Ev.resVal, Ev.resOf, Ev.kill, Ev.leave, Ev.settle, Ev.keep, Ev.varsLo, Ev.marksLo, Ev.storeLo, Ev.SObj.lo, Ev.lo_v, Ev.lo_fsl, Ev.lo_sl, Ev.los_nil, Ev.los_cons, Ev.loss_nil, Ev.frz_lo, List.length_map, ↓Ev.obind, ↓Ev.itL_itB, ↓reduceIte, List.length_cons, List.length_nil, List.getElem?_cons_zero, List.take_succ_cons, List.take_zero, List.take_nil, List.drop_zero, List.nil_append, List.set_cons_zero, List.head?_cons, Nat.reduceEqDiff, Nat.reduceLT, decide_true, Bool.and_self, Bool.false_eq_true, and_self, ne_eq, not_false_eq_true, List.cons_ne_nil, Nat.zero_add, Nat.lt_add_one, Nat.le_refl, eq_self]
end
end Go.Proofs.Ythkjkdbjgpeigaa.K
namespace Go.Proofs.Ythkjkdbjgpeigaa.K
open Go.Ev
set_option linter.unusedSimpArgs false
set_option linter.unusedVariables false
set_option maxRecDepth 10000
def stP (s : Start) : Pr := ⟨s.prog, 0, true, []⟩
def stLp (ps : List Pr) : Lp × Bool := (⟨0, 0, ps, 0⟩, decide (ps = []))
def RowOk (σ : Store) (lim : Nat) (row : List AV) (ps : List Pr) : Prop :=
  ps = [] ∧ row = [(.v (.int .i64 (0))), (.v (.int .i64 (0))), .fsl [] true, (.v (.int .i64 (0)))] ∨ ps ≠ [] ∧ ∃ o g, 0 < o ∧ o < lim ∧ row = [(.v (.int .i64 (0))), (.v (.int .i64 (0))), .sl o g 0 ps.length false, (.v (.int .i64 (0)))] ∧ σ[o]? = some (.row 4 (ps.map Pr.r) g)
theorem RowOk.frz {σ : Store} {lim d : Nat} {row : List AV} {ps : List Pr} (h : RowOk σ lim row ps) : omap (Ev.frz σ (d + 1)) row = some (lpF (stLp ps)) := by
  rcases h with ⟨rfl, rfl⟩ | ⟨h1, o, g, _, _, rfl, h2⟩
  · rfl
  · have t1 : List.take ps.length (ps.map Pr.r) = ps.map Pr.r := List.take_of_length_le (by simp)
    simp only [omap_cons, omap_nil, frz_own, h2, t1, omap_los, procs_lo, lpF, stLp, h1, Ev.lo_v, Ev.frz_lo, Ev.frz_own, Ev.omap_los, Ev.omap_nil, Ev.omap_cons, List.length_map, ↓Ev.obind, ↓reduceIte, List.drop_zero, decide_false, and_self, Nat.zero_add, Nat.le_refl, eq_self]
def RowsOk (σ : Store) (lim : Nat) : List (List AV) → List (List Pr) → Prop
  | [], [] => True
  | r :: rs, p :: ps => RowOk σ lim r p ∧ RowsOk σ lim rs ps
  | _, _ => False
theorem RowOk.mono {σ σ' : Store} {lim lim' : Nat} {row : List AV} {ps : List Pr} (h : RowOk σ lim row ps) (hl : lim ≤ lim') (hσ : ∀ o, 0 < o → o < lim → σ'[o]? = σ[o]?) : RowOk σ' lim' row ps := by
  rcases h with h | ⟨h1, o, g, h2, h3, h4, h5⟩
  · exact .inl h
  · exact .inr ⟨h1, o, g, h2, by omega, h4, by rw [hσ o h2 h3]; exact h5⟩
theorem RowsOk.mono {σ σ' : Store} {lim lim' : Nat} (hl : lim ≤ lim') (hσ : ∀ o, 0 < o → o < lim → σ'[o]? = σ[o]?) : ∀ {rs : List (List AV)} {ps : List (List Pr)}, RowsOk σ lim rs ps → RowsOk σ' lim' rs ps
  | [], [], h => trivial
  | r :: rs, p :: ps, h => ⟨h.1.mono hl hσ, RowsOk.mono hl hσ h.2⟩
  | [], _ :: _, h => h.elim
  | _ :: _, [], h => h.elim
theorem RowsOk.snoc {σ : Store} {lim : Nat} {r : List AV} {p : List Pr} (hr : RowOk σ lim r p) : ∀ {rs : List (List AV)} {ps : List (List Pr)}, RowsOk σ lim rs ps → RowsOk σ lim (rs ++ [r]) (ps ++ [p])
  | [], [], h => ⟨hr, trivial⟩
  | r' :: rs, p' :: ps, h => ⟨h.1, RowsOk.snoc hr h.2⟩
  | [], _ :: _, h => h.elim
  | _ :: _, [], h => h.elim
theorem RowsOk.frz {σ : Store} {lim d : Nat} : ∀ {rs : List (List AV)} {ps : List (List Pr)}, RowsOk σ lim rs ps → omap (omap (Ev.frz σ (d + 1))) rs = some ((ps.map stLp).map lpF)
  | [], [], h => rfl
  | r :: rs, p :: ps, h => by rw [omap_cons, h.1.frz, RowsOk.frz h.2]; rfl
  | [], _ :: _, h => h.elim
  | _ :: _, [], h => h.elim
theorem RowsOk.len {σ : Store} {lim : Nat} : ∀ {rs : List (List AV)} {ps : List (List Pr)}, RowsOk σ lim rs ps → rs.length = ps.length
  | [], [], h => rfl
  | r :: rs, p :: ps, h => by rw [List.length_cons, List.length_cons, RowsOk.len h.2]
  | [], _ :: _, h => h.elim
  | _ :: _, [], h => h.elim
section
variable (c : Cfg)
def Part (τ0 τ : Store) (i : Nat) (l : List Start) (rk : List AV) : Prop :=
  τ0.length ≤ τ.length ∧ (∀ j, j < τ0.length → τ[j]? = τ0[j]?) ∧
  (i = 0 ∧ rk = [(.v (.int .i64 (0))), (.v (.int .i64 (0))), .fsl [] true, (.v (.int .i64 (0)))] ∨ 0 < i ∧ ∃ o g, τ0.length ≤ o ∧ o < τ.length ∧ rk = [(.v (.int .i64 (0))), (.v (.int .i64 (0))), .sl (o + 1) g 0 i false, (.v (.int .i64 (0)))] ∧ τ[o]? = some (.row 4 (((l.take i).map stP).map Pr.r) g))
theorem Part.rowOk {τ0 τ : Store} {l : List Start} {rk : List AV} (h : Part τ0 τ l.length l rk) (x : SObj) : RowOk (x :: τ) (τ.length + 1) rk (l.map stP) := by
  obtain ⟨_, _, h⟩ := h
  rcases h with ⟨h1, h2⟩ | ⟨h1, o, g, h2, h3, h4, h5⟩
  · exact .inl ⟨by rw [List.eq_nil_of_length_eq_zero h1]; rfl, h2⟩
  · refine .inr ⟨fun e => by rw [List.map_eq_nil_iff] at e; subst e; simp at h1, o + 1, g, by omega, by omega, by rw [h4, List.length_map], ?_⟩
    rw [List.take_length] at h5
    rw [List.getElem?_cons_succ]; exact h5
theorem states_inner (k n : Nat) (l : List Start) (R1 R2 : List (List AV)) (hk : k = R1.length) (hn : n = R1.length + 1 + R2.length) (hl : l.length ≤ 12) (τ0 : Store) :
    ∃ y, itB (exec (evL T) itL none c_config_States_L2) (Ev.settle [3, 4, 13, 14, 15, 20, 21, 22] false (τ0.length + 1)) ⟨[(3, .sl 0 0 0 n true), (4, (.v (.int .i64 (k)))), (13, (.fsl ((c.lps).map lpC) false)), (14, (.v (.int .i64 (n)))), (15, (.v (.int .i64 (k)))), (20, (.fsl ((l).map Start.r) false)), (21, (.v (.int .i64 (l.length)))), (22, (.v (.int .i64 (0))))], []⟩ (.row 4 (R1 ++ [(.v (.int .i64 (0))), (.v (.int .i64 (0))), .fsl [] true, (.v (.int .i64 (0)))] :: R2) 0 :: τ0) = some y ∧
      ∃ (rk : List AV) (τ : Store), y.1 = .exit 2 ∧ y.2.1.marks = [] ∧ y.2.2 = .row 4 (R1 ++ rk :: R2) 0 :: τ ∧ Part τ0 τ l.length l rk ∧ Ev.look y.2.1.vars 3 = some (.sl 0 0 0 n true) ∧ Ev.look y.2.1.vars 13 = some (.fsl ((c.lps).map lpC) false) ∧ Ev.look y.2.1.vars 14 = some (.v (.int .i64 (n))) ∧ Ev.look y.2.1.vars 15 = some (.v (.int .i64 (k))) := by
  have key := itB_for (f := exec (evL T) itL none c_config_States_L2) (s := Ev.settle [3, 4, 13, 14, 15, 20, 21, 22] false (τ0.length + 1)) (α := List AV × Store)
    (fun i a => ⟨[(3, .sl 0 0 0 n true), (4, (.v (.int .i64 (k)))), (13, (.fsl ((c.lps).map lpC) false)), (14, (.v (.int .i64 (n)))), (15, (.v (.int .i64 (k)))), (20, (.fsl ((l).map Start.r) false)), (21, (.v (.int .i64 (l.length)))), (22, (.v (.int .i64 (i))))], []⟩) (fun i a => .row 4 (R1 ++ a.1 :: R2) 0 :: a.2)
    (fun i a => Part τ0 a.2 i l a.1) l.length
    (fun y => ∃ (rk : List AV) (τ : Store), y.1 = .exit 2 ∧ y.2.1.marks = [] ∧ y.2.2 = .row 4 (R1 ++ rk :: R2) 0 :: τ ∧ Part τ0 τ l.length l rk ∧ Ev.look y.2.1.vars 3 = some (.sl 0 0 0 n true) ∧ Ev.look y.2.1.vars 13 = some (.fsl ((c.lps).map lpC) false) ∧ Ev.look y.2.1.vars 14 = some (.v (.int .i64 (n))) ∧ Ev.look y.2.1.vars 15 = some (.v (.int .i64 (k)))) ?_ ?_ 0 ([(.v (.int .i64 (0))), (.v (.int .i64 (0))), .fsl [] true, (.v (.int .i64 (0)))], τ0) (Nat.zero_le _) ⟨Nat.le_refl _, fun _ _ => rfl, .inl ⟨rfl, rfl⟩⟩
  · exact key
  · rintro i ⟨rk, τ⟩ hi ⟨h1, h2, h3⟩
    simp only at h1 h2 h3 ⊢
    obtain ⟨x, hx⟩ : ∃ x, l[i]? = some x := ⟨_, List.getElem?_eq_getElem hi⟩
    have hi' : (i : Int) < (l.length : Int) := by omega
    have hw : IntKind.i64.wrap ((i : Int) + 1) = ((i + 1 : Nat) : Int) := by rw [w64_small (by omega) (by omega)]; simp
    have rg : ∀ r : List AV, (R1 ++ r :: R2)[k]? = some r := fun r => by rw [hk]; simp
    have rs : ∀ r v : List AV, (R1 ++ r :: R2).set k v = R1 ++ v :: R2 := fun r v => by rw [hk]; simp []
    have rk' : k < n := by omega
    have tg : ∀ v : SObj, (τ ++ [v])[τ.length]? = some v := fun v => by simp
    have ts : ∀ v w : SObj, (τ ++ [v]).set τ.length w = τ ++ [w] := fun v w => by simp []
    obtain ⟨xp, xt⟩ := x
    rcases h3 with ⟨hi0, rfl⟩ | ⟨h3, o, g, h4, h5, rfl, h6⟩
    · refine .inl ⟨([(.v (.int .i64 (0))), (.v (.int .i64 (0))), .sl (τ.length + 1 + 1) 0 0 1 false, (.v (.int .i64 (0)))], τ ++ [.row 2 [[(.v (.int .i64 (xp))), (.v (.int .i64 (xt)))]] 0, .row 4 [(stP ⟨xp, xt⟩).r] 0]), ?_, ?_⟩
      · simp only [c_config_States_L2, Int.natCast_nonneg, Int.toNat_natCast, List.getElem?_map, Option.map_some, hx, hi', hw, rg, rs, rk', tg, ts, List.append_assoc, List.map_nil, Start.r, stP, Pr.r, Ev.exec, Ev.evOpers, Ev.evOper, Ev.item_op, Ev.evOp, Ev.appE, Ev.Opnd.ev, Ev.Env.get, Ev.Env.set, Ev.look, Ev.cellsAt, Ev.content, Ev.loadC, Ev.fillP, Ev.fillR, Ev.AV.cells, Ev.AV.uc, Ev.plains, Ev.AV.plain, Ev.bin_add, Ev.bin_lss, Ev.settle, Ev.keep, Ev.okRows_nil, Ev.okRows_cons, List.replicate_one, ↓Ev.obind, Ev.it1, ↓reduceIte, List.length_cons, List.length_nil, List.length_append, List.getElem?_cons_zero, List.getElem?_cons_succ, List.take_succ_cons, List.take_zero, List.take_nil, List.drop_succ_cons, List.drop_zero, List.drop_nil, List.cons_append, List.nil_append, List.append_nil, List.set_cons_zero, List.set_cons_succ, List.head?_cons, Nat.reduceAdd, Nat.reduceEqDiff, Nat.reduceMul, Nat.reduceLT, Nat.reduceLeDiff, Nat.reducePow, decide_true, Bool.and_self, Bool.false_eq_true, and_self, ne_eq, not_false_eq_true, not_true_eq_false, List.cons_ne_nil, Nat.zero_add, Nat.add_zero, Nat.lt_add_one, Nat.le_refl, eq_self]
      · refine ⟨by simp; omega, fun j hj => by rw [List.getElem?_append_left (by omega)]; exact h2 j hj, .inr ⟨by omega, τ.length + 1, 0, by omega, by simp, by rw [hi0], ?_⟩⟩
        rw [take_next hx, hi0]
        simp
    · have og : ∀ v : SObj, (τ ++ [v])[o]? = some (.row 4 (((l.take i).map stP).map Pr.r) g) := fun v => by rw [List.getElem?_append_left h5]; exact h6
      have ln : (((l.take i).map stP).map Pr.r).length = i := by simp; omega
      have tk : List.take i (((l.take i).map stP).map Pr.r) = ((l.take i).map stP).map Pr.r := List.take_of_length_le (by simp; omega)
      have bd : (i + 1) * 48 ≤ 140737488355328 := by omega
      have il : i ≤ i := Nat.le_refl _
      have nx : ((l.take (i + 1)).map stP).map Pr.r = ((l.take i).map stP).map Pr.r ++ [(stP ⟨xp, xt⟩).r] := by rw [take_next hx]; simp
      refine .inl ⟨([(.v (.int .i64 (0))), (.v (.int .i64 (0))), .sl (o + 1) (g + 1) 0 (i + 1) false, (.v (.int .i64 (0)))], (τ ++ [SObj.row 2 [[(.v (.int .i64 (xp))), (.v (.int .i64 (xt)))]] 0] : List SObj).set o (.row 4 (((l.take (i + 1)).map stP).map Pr.r) (g + 1))), ?_, ?_⟩
      · simp only
        rw [nx]
        generalize ((l.take i).map stP).map Pr.r = PR at og ln tk ⊢
        simp only [c_config_States_L2, Int.natCast_nonneg, Int.toNat_natCast, List.getElem?_map, Option.map_some, hx, hi', hw, rg, rs, rk', tg, ts, og, ln, tk, bd, il, List.map_nil, Start.r, stP, Pr.r, Ev.exec, Ev.evOpers, Ev.evOper, Ev.item_op, Ev.evOp, Ev.appE, Ev.Opnd.ev, Ev.Env.get, Ev.Env.set, Ev.look, Ev.cellsAt, Ev.content, Ev.loadC, Ev.fillP, Ev.fillR, Ev.AV.cells, Ev.AV.uc, Ev.plains, Ev.AV.plain, Ev.bin_add, Ev.bin_lss, Ev.settle, Ev.keep, Ev.okRows_nil, Ev.okRows_cons, List.replicate_one, ↓Ev.obind, Ev.it1, ↓reduceIte, List.length_cons, List.length_nil, List.getElem?_cons_zero, List.getElem?_cons_succ, List.take_succ_cons, List.take_zero, List.take_nil, List.drop_succ_cons, List.drop_zero, List.drop_nil, List.cons_append, List.nil_append, List.append_nil, List.set_cons_zero, List.set_cons_succ, List.head?_cons, Nat.reduceAdd, Nat.reduceEqDiff, Nat.reduceMul, Nat.reduceLeDiff, Nat.reducePow, decide_true, Bool.and_self, Bool.false_eq_true, and_self, ne_eq, not_false_eq_true, List.cons_ne_nil, Nat.zero_add, Nat.add_zero, Nat.lt_add_one, Nat.le_refl, eq_self]
      · refine ⟨by simp; omega, fun j hj => ?_, .inr ⟨by omega, o, g + 1, h4, by simp; omega, rfl, ?_⟩⟩
        · rw [List.getElem?_set_ne (by omega), List.getElem?_append_left (by omega)]; exact h2 j hj
        · rw [List.getElem?_set_self (by simp; omega)]
  · rintro ⟨rk, τ⟩ hP
    simp only at hP ⊢
    simp only [c_config_States_L2, Int.lt_irrefl, Ev.exec, Ev.evOpers, Ev.evOper, Ev.item_op, Ev.evOp, Ev.Opnd.ev, Ev.Env.get, Ev.Env.set, Ev.look, Ev.bin_lss, ↓Ev.obind, Ev.it1, ↓reduceIte, Nat.reduceEqDiff, decide_false, Bool.false_eq_true, eq_self]
    exact ⟨_, rfl, rk, τ, rfl, rfl, rfl, hP, rfl, rfl, rfl, rfl⟩
end
end Go.Proofs.Ythkjkdbjgpeigaa.K
namespace Go.Proofs.Ythkjkdbjgpeigaa.K
open Go.Ev
set_option linter.unusedSimpArgs false
set_option linter.unusedVariables false
set_option maxRecDepth 10000
def stPs (lps : List (List Start)) : List (List Pr) := lps.map fun l => l.map stP
def statesL (lps : List (List Start)) : List (Lp × Bool) := (stPs lps).map stLp
section
variable (c : Cfg)
theorem states_outer (h : Small12 c) :
    ∃ y, itB (exec (evL T) itL none c_config_States_L1) (Ev.settle [3, 13, 14, 15] false 1) ⟨[(3, .sl 0 0 0 c.lps.length true), (13, (.fsl ((c.lps).map lpC) false)), (14, (.v (.int .i64 (c.lps.length)))), (15, (.v (.int .i64 (0))))], []⟩ [.row 4 (List.replicate c.lps.length [(.v (.int .i64 (0))), (.v (.int .i64 (0))), .fsl [] true, (.v (.int .i64 (0)))]) 0] = some y ∧
      ∃ (R : List (List AV)) (τ : Store), y.1 = .exit 0 ∧ y.2.1.marks = [] ∧ y.2.2 = .row 4 R 0 :: τ ∧ RowsOk y.2.2 (τ.length + 1) R (stPs c.lps) ∧ Ev.look y.2.1.vars 3 = some (.sl 0 0 0 c.lps.length true) := by
  have key := itB_for (f := exec (evL T) itL none c_config_States_L1) (s := Ev.settle [3, 13, 14, 15] false 1) (α := List (List AV) × Store)
    (fun i a => ⟨[(3, .sl 0 0 0 c.lps.length true), (13, (.fsl ((c.lps).map lpC) false)), (14, (.v (.int .i64 (c.lps.length)))), (15, (.v (.int .i64 (i))))], []⟩) (fun i a => .row 4 (a.1 ++ List.replicate (c.lps.length - i) [(.v (.int .i64 (0))), (.v (.int .i64 (0))), .fsl [] true, (.v (.int .i64 (0)))]) 0 :: a.2)
    (fun i a => ∀ x : SObj, RowsOk (x :: a.2) (a.2.length + 1) a.1 (stPs (c.lps.take i))) c.lps.length
    (fun y => ∃ (R : List (List AV)) (τ : Store), y.1 = .exit 0 ∧ y.2.1.marks = [] ∧ y.2.2 = .row 4 R 0 :: τ ∧ RowsOk y.2.2 (τ.length + 1) R (stPs c.lps) ∧ Ev.look y.2.1.vars 3 = some (.sl 0 0 0 c.lps.length true)) ?_ ?_ 0 ([], []) (Nat.zero_le _) (fun _ => trivial)
  · exact key
  · rintro i ⟨R, τ⟩ hi hR
    simp only at hR ⊢
    obtain ⟨x, hx⟩ : ∃ x, c.lps[i]? = some x := ⟨_, List.getElem?_eq_getElem hi⟩
    have hlps := h.lps
    have hi' : (i : Int) < (c.lps.length : Int) := by omega
    have hw : IntKind.i64.wrap ((i : Int) + 1) = ((i + 1 : Nat) : Int) := by rw [w64_small (by omega) (by omega)]; simp
    have hRl : i = R.length := by rw [(hR .dead).len]; simp [stPs]; omega
    have hrep : List.replicate (c.lps.length - i) ([(.v (.int .i64 (0))), (.v (.int .i64 (0))), .fsl [] true, (.v (.int .i64 (0)))] : List AV) = ([(.v (.int .i64 (0))), (.v (.int .i64 (0))), .fsl [] true, (.v (.int .i64 (0)))] : List AV) :: List.replicate (c.lps.length - (i + 1)) ([(.v (.int .i64 (0))), (.v (.int .i64 (0))), .fsl [] true, (.v (.int .i64 (0)))] : List AV) := by
      rw [show c.lps.length - i = (c.lps.length - (i + 1)) + 1 by omega]; rfl
    obtain ⟨⟨y, e, σ⟩, k1, rk, τ', k2, k3, k4, k5, k6, k7, k8, k9⟩ := states_inner c i c.lps.length x R (List.replicate (c.lps.length - (i + 1)) [(.v (.int .i64 (0))), (.v (.int .i64 (0))), .fsl [] true, (.v (.int .i64 (0)))]) hRl (by simp; omega) (h.lp _ (List.mem_of_getElem? hx)) τ
    simp only at k1 k2 k3 k4 k6 k7 k8 k9
    subst k2; subst k4
    refine .inl ⟨(R ++ [rk], τ'), ?_, fun z => ?_⟩
    · simp only [List.append_assoc, List.cons_append, List.nil_append]
      rw [hrep]
      generalize List.replicate (c.lps.length - (i + 1)) ([(.v (.int .i64 (0))), (.v (.int .i64 (0))), .fsl [] true, (.v (.int .i64 (0)))] : List AV) = RR at k1 ⊢
      simp only [c_config_States_L1, Int.natCast_nonneg, Int.toNat_natCast, List.getElem?_map, Option.map_some, hx, hi', hw, k1, k3, k6, k7, k8, k9, lpC, Ev.exec, Ev.evOpers, Ev.evOper, Ev.item_op, Ev.evOp, Ev.Opnd.ev, Ev.Env.get, Ev.Env.set, Ev.look, Ev.cellsAt, Ev.loadC, Ev.bin_add, Ev.bin_lss, Ev.settle, Ev.keep, List.length_map, ↓Ev.obind, ↓Ev.itL_itB, Ev.it1, ↓reduceIte, List.length_cons, List.length_nil, List.head?_cons, Nat.reduceEqDiff, decide_true, Bool.false_eq_true, Nat.zero_add, eq_self]
    · have : stPs (c.lps.take (i + 1)) = stPs (c.lps.take i) ++ [x.map stP] := by rw [take_next hx]; simp [stPs]
      simp only
      rw [this]
      refine RowsOk.snoc (k5.rowOk z) ((hR z).mono (by have := k5.1; omega) (fun o h1 h2 => ?_))
      obtain ⟨o, rfl⟩ : ∃ p, o = p + 1 := ⟨o - 1, by omega⟩
      rw [List.getElem?_cons_succ, List.getElem?_cons_succ]
      exact k5.2.1 o (by omega)
  · rintro ⟨R, τ⟩ hR
    rw [List.take_length] at hR
    simp only at hR ⊢
    rw [Nat.sub_self, List.replicate_zero, List.append_nil]
    simp only [c_config_States_L1, Int.lt_irrefl, Ev.exec, Ev.evOpers, Ev.evOper, Ev.item_op, Ev.evOp, Ev.Opnd.ev, Ev.Env.get, Ev.Env.set, Ev.look, Ev.bin_lss, ↓Ev.obind, Ev.it1, ↓reduceIte, Nat.reduceEqDiff, decide_false, Bool.false_eq_true, eq_self]
    exact ⟨_, rfl, R, τ, rfl, rfl, rfl, hR _, rfl⟩
end
end Go.Proofs.Ythkjkdbjgpeigaa.K
namespace Go.Proofs.Ythkjkdbjgpeigaa.K
open Go.Ev
set_option linter.unusedSimpArgs false
set_option linter.unusedVariables false
set_option maxRecDepth 10000
section
variable (c : Cfg)
def RPart (b i : Nat) (l : List Start) (W : Store) : Prop :=
  i = 0 ∧ W = [.row 4 [[(.v (.int .i64 (0))), (.v (.int .i64 (0))), .fsl [] true, (.v (.int .i64 (0)))]] 0] ∨ 0 < i ∧ ∃ g, W = [.row 4 [[(.v (.int .i64 (0))), (.v (.int .i64 (0))), .sl (b + 1 + 1) g 0 i false, (.v (.int .i64 (0)))]] 0, .row 4 (((l.take i).map stP).map Pr.r) g]
theorem RPart.row {b : Nat} {l : List Start} {τ0 W : Store} (hb : b = τ0.length) (h : RPart b l.length l W) :
    ∃ rk, (∃ w : List SObj, W = .row 4 [rk] 0 :: w) ∧ rk.length = 4 ∧ plains rk = true ∧ ∀ x : SObj, RowOk (x :: (τ0 ++ W)) ((τ0 ++ W).length + 1) rk (l.map stP) := by
  rcases h with ⟨h1, rfl⟩ | ⟨h1, g, rfl⟩
  · refine ⟨[(.v (.int .i64 (0))), (.v (.int .i64 (0))), .fsl [] true, (.v (.int .i64 (0)))], ⟨[], rfl⟩, rfl, rfl, fun x => .inl ⟨?_, rfl⟩⟩
    rw [List.eq_nil_of_length_eq_zero h1]; rfl
  · refine ⟨_, ⟨_, rfl⟩, rfl, rfl, fun x => .inr ⟨fun e => by rw [List.map_eq_nil_iff] at e; subst e; simp at h1, b + 1 + 1, g, by omega, by simp; omega, by rw [List.length_map], ?_⟩⟩
    rw [List.take_length, List.getElem?_cons_succ, hb, List.getElem?_append_right (by omega)]
    simp
end
end Go.Proofs.Ythkjkdbjgpeigaa.K
