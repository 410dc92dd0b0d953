/- For every input the statement of this claim returns true: texts of its proof, joined (part 8). -/
import Derived.Test.YtdphbgnlmffgaaaGA06
set_option linter.unusedSectionVars false
set_option linter.unusedSimpArgs false
set_option linter.unusedVariables false
namespace Go.Proofs.Ytdphbgnlmffgaaa.K
open Go.Ev
set_option maxRecDepth 10000
section
variable (g : Nat) (cl : Bool) (n : Nat)
def MergeTo (a m b : Nat) (D D' : List Evt) : Prop := (evL T).call n_slices_symMergeCmpFunc_api_SimEvent [.sl 0 g 0 n cl, (.v (.int .i64 (a))), (.v (.int .i64 (m))), (.v (.int .i64 (b))), (.fn (.func n_evkey_CompareEvents) [] [])] [.row 6 ((D).map Evt.r) g] = some (.tup [], [.row 6 ((D').map Evt.r) g])
structure Nums (x1 x2 y1 y2 a m b mid nn lo hi p start fin : Nat) : Prop where
  hX1 : 1 < x1 + x2
  hY1 : 1 < y1 + y2
  hb : n < 2 ^ 61
  hmid : mid = (a + b) / 2
  hnn : nn = mid + m
  hp : nn = p + 1
  hfin : nn = start + fin
  hm : m = a + (x1 + x2)
  hbb : b = m + (y1 + y2)
  hbn : b ≤ n
  hst : start = a + x1
  hfi : fin = m + y1
structure Wraps (x1 x2 y1 y2 a m b mid nn p start fin : Nat) : Prop where
  w1 : IntKind.i64.wrap ((m : Int) - (a : Int)) = ((x1 + x2 : Nat) : Int)
  h1 : ¬ ((x1 + x2 : Nat) : Int) = 1
  w2 : IntKind.i64.wrap ((b : Int) - (m : Int)) = ((y1 + y2 : Nat) : Int)
  h2 : ¬ ((y1 + y2 : Nat) : Int) = 1
  w3 : IntKind.i64.wrap ((a : Int) + (b : Int)) = ((a + b : Nat) : Int)
  w4 : IntKind.u64.wrap ((a + b : Nat) : Int) = ((a + b : Nat) : Int)
  w5 : evBin .shr (.v (.int .u64 ((a + b : Nat) : Int))) (.v (.int .u64 1)) = some (.v (.int .u64 (mid : Int)))
  w6 : IntKind.i64.wrap (mid : Int) = (mid : Int)
  w7 : IntKind.i64.wrap ((mid : Int) + (m : Int)) = (nn : Int)
  w8 : IntKind.i64.wrap ((nn : Int) - 1) = (p : Int)
  w9 : IntKind.i64.wrap ((nn : Int) - (start : Int)) = (fin : Int)
  c5 : mid < fin ↔ start < m
  c6 : start < mid ↔ m < fin
theorem Nums.wraps {n x1 x2 y1 y2 a m b mid nn lo hi p start fin : Nat} (N : Nums n x1 x2 y1 y2 a m b mid nn lo hi p start fin) : Wraps x1 x2 y1 y2 a m b mid nn p start fin := by
  obtain ⟨hX1, hY1, hb, hmid, hnn, hp, hfin, hm, hbb, hbn, hst, hfi⟩ := N
  refine ⟨w64_sub hm (by omega), by omega, w64_sub hbb (by omega), by omega, w64_add (by omega), u64_small (by omega), half_bin (a + b) mid hmid, i64_small (by omega), ?_, w64_sub1 hp (by omega), w64_sub hfin (by omega), by omega, by omega⟩
  rw [hnn]; exact w64_add (by omega)
def Finds (a m b mid nn lo hi p start : Nat) (D : List Evt) : Prop := ∃ y, itB (exec (evL T) itL none c_slices_symMergeCmpFunc_api_SimEvent_L5) (Ev.settle [0, 1, 2, 3, 4, 18, 19, 20, 21, 22] true 1) ⟨[(0, .sl 0 g 0 n cl), (1, (.v (.int .i64 (a)))), (2, (.v (.int .i64 (m)))), (3, (.v (.int .i64 (b)))), (4, (.fn (.func n_evkey_CompareEvents) [] [])), (18, (.v (.int .i64 (mid)))), (19, (.v (.int .i64 (nn)))), (20, (.v (.int .i64 (lo)))), (21, (.v (.int .i64 (hi)))), (22, (.v (.int .i64 (p))))], []⟩ [.row 6 ((D).map Evt.r) g] = some y ∧
      (y.1 = .exit 8 ∧ y.2.1.marks = [] ∧ y.2.2 = [.row 6 ((D).map Evt.r) g] ∧ Ev.look y.2.1.vars 0 = some (.sl 0 g 0 n cl) ∧ Ev.look y.2.1.vars 1 = some (.v (.int .i64 (a))) ∧ Ev.look y.2.1.vars 2 = some (.v (.int .i64 (m))) ∧ Ev.look y.2.1.vars 3 = some (.v (.int .i64 (b))) ∧ Ev.look y.2.1.vars 4 = some (.fn (.func n_evkey_CompareEvents) [] []) ∧ Ev.look y.2.1.vars 18 = some (.v (.int .i64 (mid))) ∧
        Ev.look y.2.1.vars 19 = some (.v (.int .i64 (nn))) ∧ Ev.look y.2.1.vars 20 = some (.v (.int .i64 (start))))
structure Steps (a m b mid start fin : Nat) (D D2 D3 D4 : List Evt) : Prop where
  s1 : start < m → m < fin → (evL T).call n_slices_rotateCmpFunc_api_SimEvent [.sl 0 g 0 n cl, (.v (.int .i64 (start))), (.v (.int .i64 (m))), (.v (.int .i64 (fin))), (.fn (.func n_evkey_CompareEvents) [] [])] [.row 6 ((D).map Evt.r) g] = some (.tup [], [.row 6 ((D2).map Evt.r) g])
  n1 : ¬ (start < m ∧ m < fin) → D2 = D
  s2 : a < start → start < mid → MergeTo g cl n a start mid D2 D3
  n2 : ¬ (a < start ∧ start < mid) → D3 = D2
  s3 : mid < fin → fin < b → MergeTo g cl n mid fin b D3 D4
  n3 : ¬ (mid < fin ∧ fin < b) → D4 = D3
theorem merge_way_11111 (x1 x2 y1 y2 a m b mid nn lo hi p start fin : Nat) (D D2 D3 D4 : List Evt) (N : Nums n x1 x2 y1 y2 a m b mid nn lo hi p start fin) (g1 : mid < m) (g2 : nn = b + lo)
    (d1 : start < m) (d2 : m < fin) (d3 : a < start) (d4 : fin < b)
    (hf : Finds g cl n a m b mid nn lo mid p start D) (hS : Steps g cl n a m b mid start fin D D2 D3 D4) : MergeTo g cl n a m b D D4 := by
  obtain ⟨s1, n1, s2, n2, s3, n3⟩ := hS
  obtain ⟨⟨y, e, σ⟩, k1, k2, k3, k4, k5, k6, k7, k8, k9, k10, k11, k12⟩ := hf
  obtain ⟨w1, h1, w2, h2, w3, w4, w5, w6, w7, w8, w9, c5, c6⟩ := N.wraps
  simp only at k1 k2 k3 k4 k5 k6 k7 k8 k9 k10 k11 k12
  subst k2; subst k4
  unfold MergeTo at *
  rw [evL_code ext_slices_symMergeCmpFunc_api_SimEvent code_slices_symMergeCmpFunc_api_SimEvent]
  have g4 : (m : Int) > (mid : Int) := Int.ofNat_lt.2 g1
  have g5 : IntKind.i64.wrap ((nn : Int) - (b : Int)) = (lo : Int) := w64_sub g2 (by have := N.hnn; have := N.hmid; have := N.hb; have := N.hbn; have := N.hm; have := N.hbb; omega)
  have e1 : (start : Int) < (m : Int) := Int.ofNat_lt.2 d1
  have e2 : (m : Int) < (fin : Int) := Int.ofNat_lt.2 d2
  have e3 : (a : Int) < (start : Int) := Int.ofNat_lt.2 d3
  have e5 : (mid : Int) < (fin : Int) := Int.ofNat_lt.2 (c5.2 d1)
  have e6 : (start : Int) < (mid : Int) := Int.ofNat_lt.2 (c6.2 d2)
  have e4 : (fin : Int) < (b : Int) := Int.ofNat_lt.2 d4
  have r1 := s1 d1 d2
  have r2 := s2 d3 (c6.2 d2)
  have r3 := s3 (c5.2 d1) d4
  simp only [c_slices_symMergeCmpFunc_api_SimEvent, w1, w2, w3, w4, w5, w6, w7, w8, w9, h1, h2, g4, k1, k3, k5, k6, k7, k8, k9, k10, k11, k12, e1, e2, e3, e5, e6, g5, r1, r2, r3, e4, evts_lo, Ev.runFunc, Ev.exec, Ev.evOpers, Ev.evOper, Ev.item_op, Ev.item_I, Ev.evOp, Ev.evs, Ev.Opnd.ev, Ev.Env.get, Ev.Env.set, Ev.look, Ev.argVars, Ev.bin_add, Ev.bin_sub, Ev.bin_eql, Ev.bin_lss, Ev.bin_gtr, Ev.resVals, Ev.resOf, Ev.kill, Ev.leave, Ev.settle, Ev.keep, Ev.varsLo, Ev.marksLo, Ev.storeLo, Ev.SObj.lo, Ev.lo_v, Ev.lo_tup, Ev.lo_sl, Ev.lo_fn, Ev.los_nil, ↓Ev.obind, ↓Ev.itL_itB, ↓reduceIte, List.length_cons, List.length_nil, List.take_succ_cons, List.take_nil, Nat.reduceAdd, Nat.reduceEqDiff, reduceCtorEq, decide_true, decide_false, Bool.and_self, Bool.false_eq_true, and_self, Nat.zero_add, Nat.lt_add_one, eq_self]
theorem merge_way_11110 (x1 x2 y1 y2 a m b mid nn lo hi p start fin : Nat) (D D2 D3 D4 : List Evt) (N : Nums n x1 x2 y1 y2 a m b mid nn lo hi p start fin) (g1 : mid < m) (g2 : nn = b + lo)
    (d1 : start < m) (d2 : m < fin) (d3 : a < start) (d4 : ¬ fin < b)
    (hf : Finds g cl n a m b mid nn lo mid p start D) (hS : Steps g cl n a m b mid start fin D D2 D3 D4) : MergeTo g cl n a m b D D4 := by
  obtain ⟨s1, n1, s2, n2, s3, n3⟩ := hS
  obtain ⟨⟨y, e, σ⟩, k1, k2, k3, k4, k5, k6, k7, k8, k9, k10, k11, k12⟩ := hf
  obtain ⟨w1, h1, w2, h2, w3, w4, w5, w6, w7, w8, w9, c5, c6⟩ := N.wraps
  simp only at k1 k2 k3 k4 k5 k6 k7 k8 k9 k10 k11 k12
  subst k2; subst k4
  unfold MergeTo at *
  rw [evL_code ext_slices_symMergeCmpFunc_api_SimEvent code_slices_symMergeCmpFunc_api_SimEvent]
  have g4 : (m : Int) > (mid : Int) := Int.ofNat_lt.2 g1
  have g5 : IntKind.i64.wrap ((nn : Int) - (b : Int)) = (lo : Int) := w64_sub g2 (by have := N.hnn; have := N.hmid; have := N.hb; have := N.hbn; have := N.hm; have := N.hbb; omega)
  have e1 : (start : Int) < (m : Int) := Int.ofNat_lt.2 d1
  have e2 : (m : Int) < (fin : Int) := Int.ofNat_lt.2 d2
  have e3 : (a : Int) < (start : Int) := Int.ofNat_lt.2 d3
  have e5 : (mid : Int) < (fin : Int) := Int.ofNat_lt.2 (c5.2 d1)
  have e6 : (start : Int) < (mid : Int) := Int.ofNat_lt.2 (c6.2 d2)
  have e4 : ¬ (fin : Int) < (b : Int) := fun h => d4 (Int.ofNat_lt.1 h)
  have r1 := s1 d1 d2
  have r2 := s2 d3 (c6.2 d2)
  have r3 := n3 (fun h => d4 h.2); subst r3
  simp only [c_slices_symMergeCmpFunc_api_SimEvent, w1, w2, w3, w4, w5, w6, w7, w8, w9, h1, h2, g4, k1, k3, k5, k6, k7, k8, k9, k10, k11, k12, e1, e2, e3, e5, e6, g5, r1, r2, e4, evts_lo, Ev.runFunc, Ev.exec, Ev.evOpers, Ev.evOper, Ev.item_op, Ev.item_I, Ev.evOp, Ev.evs, Ev.Opnd.ev, Ev.Env.get, Ev.Env.set, Ev.look, Ev.argVars, Ev.bin_add, Ev.bin_sub, Ev.bin_eql, Ev.bin_lss, Ev.bin_gtr, Ev.resVals, Ev.resOf, Ev.kill, Ev.leave, Ev.settle, Ev.keep, Ev.varsLo, Ev.marksLo, Ev.storeLo, Ev.SObj.lo, Ev.lo_v, Ev.lo_tup, Ev.lo_sl, Ev.lo_fn, Ev.los_nil, ↓Ev.obind, ↓Ev.itL_itB, ↓reduceIte, List.length_cons, List.length_nil, List.take_succ_cons, List.take_nil, Nat.reduceAdd, Nat.reduceEqDiff, reduceCtorEq, decide_true, decide_false, Bool.and_self, Bool.false_eq_true, and_self, Nat.zero_add, Nat.lt_add_one, eq_self]
theorem merge_way_11101 (x1 x2 y1 y2 a m b mid nn lo hi p start fin : Nat) (D D2 D3 D4 : List Evt) (N : Nums n x1 x2 y1 y2 a m b mid nn lo hi p start fin) (g1 : mid < m) (g2 : nn = b + lo)
    (d1 : start < m) (d2 : m < fin) (d3 : ¬ a < start) (d4 : fin < b)
    (hf : Finds g cl n a m b mid nn lo mid p start D) (hS : Steps g cl n a m b mid start fin D D2 D3 D4) : MergeTo g cl n a m b D D4 := by
  obtain ⟨s1, n1, s2, n2, s3, n3⟩ := hS
  obtain ⟨⟨y, e, σ⟩, k1, k2, k3, k4, k5, k6, k7, k8, k9, k10, k11, k12⟩ := hf
  obtain ⟨w1, h1, w2, h2, w3, w4, w5, w6, w7, w8, w9, c5, c6⟩ := N.wraps
  simp only at k1 k2 k3 k4 k5 k6 k7 k8 k9 k10 k11 k12
  subst k2; subst k4
  unfold MergeTo at *
  rw [evL_code ext_slices_symMergeCmpFunc_api_SimEvent code_slices_symMergeCmpFunc_api_SimEvent]
  have g4 : (m : Int) > (mid : Int) := Int.ofNat_lt.2 g1
  have g5 : IntKind.i64.wrap ((nn : Int) - (b : Int)) = (lo : Int) := w64_sub g2 (by have := N.hnn; have := N.hmid; have := N.hb; have := N.hbn; have := N.hm; have := N.hbb; omega)
  have e1 : (start : Int) < (m : Int) := Int.ofNat_lt.2 d1
  have e2 : (m : Int) < (fin : Int) := Int.ofNat_lt.2 d2
  have e3 : ¬ (a : Int) < (start : Int) := fun h => d3 (Int.ofNat_lt.1 h)
  have e5 : (mid : Int) < (fin : Int) := Int.ofNat_lt.2 (c5.2 d1)
  have e6 : (start : Int) < (mid : Int) := Int.ofNat_lt.2 (c6.2 d2)
  have e4 : (fin : Int) < (b : Int) := Int.ofNat_lt.2 d4
  have r1 := s1 d1 d2
  have r2 := n2 (fun h => d3 h.1); subst r2
  have r3 := s3 (c5.2 d1) d4
  simp only [c_slices_symMergeCmpFunc_api_SimEvent, w1, w2, w3, w4, w5, w6, w7, w8, w9, h1, h2, g4, k1, k3, k5, k6, k7, k8, k9, k10, k11, k12, e1, e2, e3, e5, g5, r1, r3, e4, evts_lo, Ev.runFunc, Ev.exec, Ev.evOpers, Ev.evOper, Ev.item_op, Ev.item_I, Ev.evOp, Ev.evs, Ev.Opnd.ev, Ev.Env.get, Ev.Env.set, Ev.Env.unset, Ev.look, Ev.argVars, Ev.bin_add, Ev.bin_sub, Ev.bin_eql, Ev.bin_lss, Ev.bin_gtr, Ev.resVals, Ev.resOf, Ev.kill, Ev.leave, Ev.settle, Ev.keep, Ev.varsLo, Ev.marksLo, Ev.storeLo, Ev.SObj.lo, Ev.lo_v, Ev.lo_tup, Ev.lo_sl, Ev.lo_fn, Ev.los_nil, ↓Ev.obind, ↓Ev.itL_itB, ↓reduceIte, List.length_cons, List.length_nil, List.take_succ_cons, List.take_nil, Nat.reduceAdd, Nat.reduceEqDiff, reduceCtorEq, decide_true, decide_false, Bool.and_self, Bool.false_eq_true, and_self, Nat.zero_add, Nat.lt_add_one, eq_self]
theorem merge_way_11100 (x1 x2 y1 y2 a m b mid nn lo hi p start fin : Nat) (D D2 D3 D4 : List Evt) (N : Nums n x1 x2 y1 y2 a m b mid nn lo hi p start fin) (g1 : mid < m) (g2 : nn = b + lo)
    (d1 : start < m) (d2 : m < fin) (d3 : ¬ a < start) (d4 : ¬ fin < b)
    (hf : Finds g cl n a m b mid nn lo mid p start D) (hS : Steps g cl n a m b mid start fin D D2 D3 D4) : MergeTo g cl n a m b D D4 := by
  obtain ⟨s1, n1, s2, n2, s3, n3⟩ := hS
  obtain ⟨⟨y, e, σ⟩, k1, k2, k3, k4, k5, k6, k7, k8, k9, k10, k11, k12⟩ := hf
  obtain ⟨w1, h1, w2, h2, w3, w4, w5, w6, w7, w8, w9, c5, c6⟩ := N.wraps
  simp only at k1 k2 k3 k4 k5 k6 k7 k8 k9 k10 k11 k12
  subst k2; subst k4
  unfold MergeTo at *
  rw [evL_code ext_slices_symMergeCmpFunc_api_SimEvent code_slices_symMergeCmpFunc_api_SimEvent]
  have g4 : (m : Int) > (mid : Int) := Int.ofNat_lt.2 g1
  have g5 : IntKind.i64.wrap ((nn : Int) - (b : Int)) = (lo : Int) := w64_sub g2 (by have := N.hnn; have := N.hmid; have := N.hb; have := N.hbn; have := N.hm; have := N.hbb; omega)
  have e1 : (start : Int) < (m : Int) := Int.ofNat_lt.2 d1
  have e2 : (m : Int) < (fin : Int) := Int.ofNat_lt.2 d2
  have e3 : ¬ (a : Int) < (start : Int) := fun h => d3 (Int.ofNat_lt.1 h)
  have e5 : (mid : Int) < (fin : Int) := Int.ofNat_lt.2 (c5.2 d1)
  have e6 : (start : Int) < (mid : Int) := Int.ofNat_lt.2 (c6.2 d2)
  have e4 : ¬ (fin : Int) < (b : Int) := fun h => d4 (Int.ofNat_lt.1 h)
  have r1 := s1 d1 d2
  have r2 := n2 (fun h => d3 h.1); subst r2
  have r3 := n3 (fun h => d4 h.2); subst r3
  simp only [c_slices_symMergeCmpFunc_api_SimEvent, w1, w2, w3, w4, w5, w6, w7, w8, w9, h1, h2, g4, k1, k3, k5, k6, k7, k8, k9, k10, k11, k12, e1, e2, e3, e5, g5, r1, e4, evts_lo, Ev.runFunc, Ev.exec, Ev.evOpers, Ev.evOper, Ev.item_op, Ev.item_I, Ev.evOp, Ev.evs, Ev.Opnd.ev, Ev.Env.get, Ev.Env.set, Ev.Env.unset, Ev.look, Ev.argVars, Ev.bin_add, Ev.bin_sub, Ev.bin_eql, Ev.bin_lss, Ev.bin_gtr, Ev.resVals, Ev.resOf, Ev.kill, Ev.leave, Ev.settle, Ev.keep, Ev.varsLo, Ev.marksLo, Ev.storeLo, Ev.SObj.lo, Ev.lo_v, Ev.lo_tup, Ev.lo_sl, Ev.lo_fn, Ev.los_nil, ↓Ev.obind, ↓Ev.itL_itB, ↓reduceIte, List.length_cons, List.length_nil, List.take_succ_cons, List.take_nil, Nat.reduceAdd, Nat.reduceEqDiff, reduceCtorEq, decide_true, decide_false, Bool.and_self, Bool.false_eq_true, and_self, Nat.zero_add, Nat.lt_add_one, eq_self]
theorem merge_way_11011 (x1 x2 y1 y2 a m b mid nn lo hi p start fin : Nat) (D D2 D3 D4 : List Evt) (N : Nums n x1 x2 y1 y2 a m b mid nn lo hi p start fin) (g1 : mid < m) (g2 : nn = b + lo)
    (d1 : start < m) (d2 : ¬ m < fin) (d3 : a < start) (d4 : fin < b)
    (hf : Finds g cl n a m b mid nn lo mid p start D) (hS : Steps g cl n a m b mid start fin D D2 D3 D4) : MergeTo g cl n a m b D D4 := by
  obtain ⟨s1, n1, s2, n2, s3, n3⟩ := hS
  obtain ⟨⟨y, e, σ⟩, k1, k2, k3, k4, k5, k6, k7, k8, k9, k10, k11, k12⟩ := hf
  obtain ⟨w1, h1, w2, h2, w3, w4, w5, w6, w7, w8, w9, c5, c6⟩ := N.wraps
  simp only at k1 k2 k3 k4 k5 k6 k7 k8 k9 k10 k11 k12
  subst k2; subst k4
  unfold MergeTo at *
  rw [evL_code ext_slices_symMergeCmpFunc_api_SimEvent code_slices_symMergeCmpFunc_api_SimEvent]
  have g4 : (m : Int) > (mid : Int) := Int.ofNat_lt.2 g1
  have g5 : IntKind.i64.wrap ((nn : Int) - (b : Int)) = (lo : Int) := w64_sub g2 (by have := N.hnn; have := N.hmid; have := N.hb; have := N.hbn; have := N.hm; have := N.hbb; omega)
  have e1 : (start : Int) < (m : Int) := Int.ofNat_lt.2 d1
  have e2 : ¬ (m : Int) < (fin : Int) := fun h => d2 (Int.ofNat_lt.1 h)
  have e3 : (a : Int) < (start : Int) := Int.ofNat_lt.2 d3
  have e5 : (mid : Int) < (fin : Int) := Int.ofNat_lt.2 (c5.2 d1)
  have e6 : ¬ (start : Int) < (mid : Int) := fun h => d2 (c6.1 (Int.ofNat_lt.1 h))
  have e4 : (fin : Int) < (b : Int) := Int.ofNat_lt.2 d4
  have r1 := n1 (fun h => d2 h.2); subst r1
  have r2 := n2 (fun h => d2 (c6.1 h.2)); subst r2
  have r3 := s3 (c5.2 d1) d4
  simp only [c_slices_symMergeCmpFunc_api_SimEvent, w1, w2, w3, w4, w5, w6, w7, w8, w9, h1, h2, g4, k1, k3, k5, k6, k7, k8, k9, k10, k11, k12, e1, e2, e3, e5, e6, g5, r3, e4, evts_lo, Ev.runFunc, Ev.exec, Ev.evOpers, Ev.evOper, Ev.item_op, Ev.item_I, Ev.evOp, Ev.evs, Ev.Opnd.ev, Ev.Env.get, Ev.Env.set, Ev.look, Ev.argVars, Ev.bin_add, Ev.bin_sub, Ev.bin_eql, Ev.bin_lss, Ev.bin_gtr, Ev.resVals, Ev.resOf, Ev.kill, Ev.leave, Ev.settle, Ev.keep, Ev.varsLo, Ev.marksLo, Ev.storeLo, Ev.SObj.lo, Ev.lo_v, Ev.lo_tup, Ev.lo_sl, Ev.lo_fn, Ev.los_nil, ↓Ev.obind, ↓Ev.itL_itB, ↓reduceIte, List.length_cons, List.length_nil, List.take_succ_cons, List.take_nil, Nat.reduceAdd, Nat.reduceEqDiff, reduceCtorEq, decide_true, decide_false, Bool.and_self, Bool.false_eq_true, and_self, Nat.zero_add, Nat.lt_add_one, eq_self]
theorem merge_way_11010 (x1 x2 y1 y2 a m b mid nn lo hi p start fin : Nat) (D D2 D3 D4 : List Evt) (N : Nums n x1 x2 y1 y2 a m b mid nn lo hi p start fin) (g1 : mid < m) (g2 : nn = b + lo)
    (d1 : start < m) (d2 : ¬ m < fin) (d3 : a < start) (d4 : ¬ fin < b)
    (hf : Finds g cl n a m b mid nn lo mid p start D) (hS : Steps g cl n a m b mid start fin D D2 D3 D4) : MergeTo g cl n a m b D D4 := by
  obtain ⟨s1, n1, s2, n2, s3, n3⟩ := hS
  obtain ⟨⟨y, e, σ⟩, k1, k2, k3, k4, k5, k6, k7, k8, k9, k10, k11, k12⟩ := hf
  obtain ⟨w1, h1, w2, h2, w3, w4, w5, w6, w7, w8, w9, c5, c6⟩ := N.wraps
  simp only at k1 k2 k3 k4 k5 k6 k7 k8 k9 k10 k11 k12
  subst k2; subst k4
  unfold MergeTo at *
  rw [evL_code ext_slices_symMergeCmpFunc_api_SimEvent code_slices_symMergeCmpFunc_api_SimEvent]
  have g4 : (m : Int) > (mid : Int) := Int.ofNat_lt.2 g1
  have g5 : IntKind.i64.wrap ((nn : Int) - (b : Int)) = (lo : Int) := w64_sub g2 (by have := N.hnn; have := N.hmid; have := N.hb; have := N.hbn; have := N.hm; have := N.hbb; omega)
  have e1 : (start : Int) < (m : Int) := Int.ofNat_lt.2 d1
  have e2 : ¬ (m : Int) < (fin : Int) := fun h => d2 (Int.ofNat_lt.1 h)
  have e3 : (a : Int) < (start : Int) := Int.ofNat_lt.2 d3
  have e5 : (mid : Int) < (fin : Int) := Int.ofNat_lt.2 (c5.2 d1)
  have e6 : ¬ (start : Int) < (mid : Int) := fun h => d2 (c6.1 (Int.ofNat_lt.1 h))
  have e4 : ¬ (fin : Int) < (b : Int) := fun h => d4 (Int.ofNat_lt.1 h)
  have r1 := n1 (fun h => d2 h.2); subst r1
  have r2 := n2 (fun h => d2 (c6.1 h.2)); subst r2
  have r3 := n3 (fun h => d4 h.2); subst r3
  simp only [c_slices_symMergeCmpFunc_api_SimEvent, w1, w2, w3, w4, w5, w6, w7, w8, w9, h1, h2, g4, k1, k3, k6, k7, k8, k10, k11, k12, e1, e2, e3, e5, e6, g5, e4, evts_lo, Ev.runFunc, Ev.exec, Ev.evOpers, Ev.evOper, Ev.item_op, Ev.evOp, Ev.Opnd.ev, Ev.Env.get, Ev.Env.set, Ev.look, Ev.argVars, Ev.bin_add, Ev.bin_sub, Ev.bin_eql, Ev.bin_lss, Ev.bin_gtr, Ev.resVals, Ev.resOf, Ev.kill, Ev.leave, Ev.settle, Ev.keep, Ev.varsLo, Ev.marksLo, Ev.storeLo, Ev.SObj.lo, Ev.lo_v, Ev.lo_tup, Ev.lo_sl, Ev.lo_fn, Ev.los_nil, ↓Ev.obind, ↓Ev.itL_itB, ↓reduceIte, List.length_cons, List.length_nil, List.take_succ_cons, List.take_nil, Nat.reduceAdd, Nat.reduceEqDiff, reduceCtorEq, decide_true, decide_false, Bool.and_self, Bool.false_eq_true, and_self, Nat.zero_add, Nat.lt_add_one, eq_self]
theorem merge_way_11001 (x1 x2 y1 y2 a m b mid nn lo hi p start fin : Nat) (D D2 D3 D4 : List Evt) (N : Nums n x1 x2 y1 y2 a m b mid nn lo hi p start fin) (g1 : mid < m) (g2 : nn = b + lo)
    (d1 : start < m) (d2 : ¬ m < fin) (d3 : ¬ a < start) (d4 : fin < b)
    (hf : Finds g cl n a m b mid nn lo mid p start D) (hS : Steps g cl n a m b mid start fin D D2 D3 D4) : MergeTo g cl n a m b D D4 := by
  obtain ⟨s1, n1, s2, n2, s3, n3⟩ := hS
  obtain ⟨⟨y, e, σ⟩, k1, k2, k3, k4, k5, k6, k7, k8, k9, k10, k11, k12⟩ := hf
  obtain ⟨w1, h1, w2, h2, w3, w4, w5, w6, w7, w8, w9, c5, c6⟩ := N.wraps
  simp only at k1 k2 k3 k4 k5 k6 k7 k8 k9 k10 k11 k12
  subst k2; subst k4
  unfold MergeTo at *
  rw [evL_code ext_slices_symMergeCmpFunc_api_SimEvent code_slices_symMergeCmpFunc_api_SimEvent]
  have g4 : (m : Int) > (mid : Int) := Int.ofNat_lt.2 g1
  have g5 : IntKind.i64.wrap ((nn : Int) - (b : Int)) = (lo : Int) := w64_sub g2 (by have := N.hnn; have := N.hmid; have := N.hb; have := N.hbn; have := N.hm; have := N.hbb; omega)
  have e1 : (start : Int) < (m : Int) := Int.ofNat_lt.2 d1
  have e2 : ¬ (m : Int) < (fin : Int) := fun h => d2 (Int.ofNat_lt.1 h)
  have e3 : ¬ (a : Int) < (start : Int) := fun h => d3 (Int.ofNat_lt.1 h)
  have e5 : (mid : Int) < (fin : Int) := Int.ofNat_lt.2 (c5.2 d1)
  have e6 : ¬ (start : Int) < (mid : Int) := fun h => d2 (c6.1 (Int.ofNat_lt.1 h))
  have e4 : (fin : Int) < (b : Int) := Int.ofNat_lt.2 d4
  have r1 := n1 (fun h => d2 h.2); subst r1
  have r2 := n2 (fun h => d3 h.1); subst r2
  have r3 := s3 (c5.2 d1) d4
  simp only [c_slices_symMergeCmpFunc_api_SimEvent, w1, w2, w3, w4, w5, w6, w7, w8, w9, h1, h2, g4, k1, k3, k5, k6, k7, k8, k9, k10, k11, k12, e1, e2, e3, e5, g5, r3, e4, evts_lo, Ev.runFunc, Ev.exec, Ev.evOpers, Ev.evOper, Ev.item_op, Ev.item_I, Ev.evOp, Ev.evs, Ev.Opnd.ev, Ev.Env.get, Ev.Env.set, Ev.Env.unset, Ev.look, Ev.argVars, Ev.bin_add, Ev.bin_sub, Ev.bin_eql, Ev.bin_lss, Ev.bin_gtr, Ev.resVals, Ev.resOf, Ev.kill, Ev.leave, Ev.settle, Ev.keep, Ev.varsLo, Ev.marksLo, Ev.storeLo, Ev.SObj.lo, Ev.lo_v, Ev.lo_tup, Ev.lo_sl, Ev.lo_fn, Ev.los_nil, ↓Ev.obind, ↓Ev.itL_itB, ↓reduceIte, List.length_cons, List.length_nil, List.take_succ_cons, List.take_nil, Nat.reduceAdd, Nat.reduceEqDiff, reduceCtorEq, decide_true, decide_false, Bool.and_self, Bool.false_eq_true, and_self, Nat.zero_add, Nat.lt_add_one, eq_self]
theorem merge_way_11000 (x1 x2 y1 y2 a m b mid nn lo hi p start fin : Nat) (D D2 D3 D4 : List Evt) (N : Nums n x1 x2 y1 y2 a m b mid nn lo hi p start fin) (g1 : mid < m) (g2 : nn = b + lo)
    (d1 : start < m) (d2 : ¬ m < fin) (d3 : ¬ a < start) (d4 : ¬ fin < b)
    (hf : Finds g cl n a m b mid nn lo mid p start D) (hS : Steps g cl n a m b mid start fin D D2 D3 D4) : MergeTo g cl n a m b D D4 := by
  obtain ⟨s1, n1, s2, n2, s3, n3⟩ := hS
  obtain ⟨⟨y, e, σ⟩, k1, k2, k3, k4, k5, k6, k7, k8, k9, k10, k11, k12⟩ := hf
  obtain ⟨w1, h1, w2, h2, w3, w4, w5, w6, w7, w8, w9, c5, c6⟩ := N.wraps
  simp only at k1 k2 k3 k4 k5 k6 k7 k8 k9 k10 k11 k12
  subst k2; subst k4
  unfold MergeTo at *
  rw [evL_code ext_slices_symMergeCmpFunc_api_SimEvent code_slices_symMergeCmpFunc_api_SimEvent]
  have g4 : (m : Int) > (mid : Int) := Int.ofNat_lt.2 g1
  have g5 : IntKind.i64.wrap ((nn : Int) - (b : Int)) = (lo : Int) := w64_sub g2 (by have := N.hnn; have := N.hmid; have := N.hb; have := N.hbn; have := N.hm; have := N.hbb; omega)
  have e1 : (start : Int) < (m : Int) := Int.ofNat_lt.2 d1
  have e2 : ¬ (m : Int) < (fin : Int) := fun h => d2 (Int.ofNat_lt.1 h)
  have e3 : ¬ (a : Int) < (start : Int) := fun h => d3 (Int.ofNat_lt.1 h)
  have e5 : (mid : Int) < (fin : Int) := Int.ofNat_lt.2 (c5.2 d1)
  have e6 : ¬ (start : Int) < (mid : Int) := fun h => d2 (c6.1 (Int.ofNat_lt.1 h))
  have e4 : ¬ (fin : Int) < (b : Int) := fun h => d4 (Int.ofNat_lt.1 h)
  have r1 := n1 (fun h => d2 h.2); subst r1
  have r2 := n2 (fun h => d3 h.1); subst r2
  have r3 := n3 (fun h => d4 h.2); subst r3
  simp only [c_slices_symMergeCmpFunc_api_SimEvent, w1, w2, w3, w4, w5, w6, w7, w8, w9, h1, h2, g4, k1, k3, k6, k7, k8, k10, k11, k12, e1, e2, e3, e5, g5, e4, evts_lo, Ev.runFunc, Ev.exec, Ev.evOpers, Ev.evOper, Ev.item_op, Ev.evOp, Ev.Opnd.ev, Ev.Env.get, Ev.Env.set, Ev.Env.unset, Ev.look, Ev.argVars, Ev.bin_add, Ev.bin_sub, Ev.bin_eql, Ev.bin_lss, Ev.bin_gtr, Ev.resVals, Ev.resOf, Ev.kill, Ev.leave, Ev.settle, Ev.keep, Ev.varsLo, Ev.marksLo, Ev.storeLo, Ev.SObj.lo, Ev.lo_v, Ev.lo_tup, Ev.lo_sl, Ev.lo_fn, Ev.los_nil, ↓Ev.obind, ↓Ev.itL_itB, ↓reduceIte, List.length_cons, List.length_nil, List.take_succ_cons, List.take_nil, Nat.reduceAdd, Nat.reduceEqDiff, reduceCtorEq, decide_true, decide_false, Bool.and_self, Bool.false_eq_true, and_self, Nat.zero_add, Nat.lt_add_one, eq_self]
theorem merge_way_10111 (x1 x2 y1 y2 a m b mid nn lo hi p start fin : Nat) (D D2 D3 D4 : List Evt) (N : Nums n x1 x2 y1 y2 a m b mid nn lo hi p start fin) (g1 : mid < m) (g2 : nn = b + lo)
    (d1 : ¬ start < m) (d2 : m < fin) (d3 : a < start) (d4 : fin < b)
    (hf : Finds g cl n a m b mid nn lo mid p start D) (hS : Steps g cl n a m b mid start fin D D2 D3 D4) : MergeTo g cl n a m b D D4 := by
  obtain ⟨s1, n1, s2, n2, s3, n3⟩ := hS
  obtain ⟨⟨y, e, σ⟩, k1, k2, k3, k4, k5, k6, k7, k8, k9, k10, k11, k12⟩ := hf
  obtain ⟨w1, h1, w2, h2, w3, w4, w5, w6, w7, w8, w9, c5, c6⟩ := N.wraps
  simp only at k1 k2 k3 k4 k5 k6 k7 k8 k9 k10 k11 k12
  subst k2; subst k4
  unfold MergeTo at *
  rw [evL_code ext_slices_symMergeCmpFunc_api_SimEvent code_slices_symMergeCmpFunc_api_SimEvent]
  have g4 : (m : Int) > (mid : Int) := Int.ofNat_lt.2 g1
  have g5 : IntKind.i64.wrap ((nn : Int) - (b : Int)) = (lo : Int) := w64_sub g2 (by have := N.hnn; have := N.hmid; have := N.hb; have := N.hbn; have := N.hm; have := N.hbb; omega)
  have e1 : ¬ (start : Int) < (m : Int) := fun h => d1 (Int.ofNat_lt.1 h)
  have e2 : (m : Int) < (fin : Int) := Int.ofNat_lt.2 d2
  have e3 : (a : Int) < (start : Int) := Int.ofNat_lt.2 d3
  have e5 : ¬ (mid : Int) < (fin : Int) := fun h => d1 (c5.1 (Int.ofNat_lt.1 h))
  have e6 : (start : Int) < (mid : Int) := Int.ofNat_lt.2 (c6.2 d2)
  have e4 : (fin : Int) < (b : Int) := Int.ofNat_lt.2 d4
  have r1 := n1 (fun h => d1 h.1); subst r1
  have r2 := s2 d3 (c6.2 d2)
  have r3 := n3 (fun h => d1 (c5.1 h.1)); subst r3
  simp only [c_slices_symMergeCmpFunc_api_SimEvent, w1, w2, w3, w4, w5, w6, w7, w8, w9, h1, h2, g4, k1, k3, k5, k6, k7, k9, k10, k11, k12, e1, e3, e5, e6, g5, r2, evts_lo, Ev.runFunc, Ev.exec, Ev.evOpers, Ev.evOper, Ev.item_op, Ev.item_I, Ev.evOp, Ev.evs, Ev.Opnd.ev, Ev.Env.get, Ev.Env.set, Ev.Env.unset, Ev.look, Ev.argVars, Ev.bin_add, Ev.bin_sub, Ev.bin_eql, Ev.bin_lss, Ev.bin_gtr, Ev.resVals, Ev.resOf, Ev.kill, Ev.leave, Ev.settle, Ev.keep, Ev.varsLo, Ev.marksLo, Ev.storeLo, Ev.SObj.lo, Ev.lo_v, Ev.lo_tup, Ev.lo_sl, Ev.lo_fn, Ev.los_nil, ↓Ev.obind, ↓Ev.itL_itB, ↓reduceIte, List.length_cons, List.length_nil, List.take_succ_cons, List.take_nil, Nat.reduceAdd, Nat.reduceEqDiff, reduceCtorEq, decide_true, decide_false, Bool.and_self, Bool.false_eq_true, and_self, Nat.zero_add, Nat.lt_add_one, eq_self]
theorem merge_way_10110 (x1 x2 y1 y2 a m b mid nn lo hi p start fin : Nat) (D D2 D3 D4 : List Evt) (N : Nums n x1 x2 y1 y2 a m b mid nn lo hi p start fin) (g1 : mid < m) (g2 : nn = b + lo)
    (d1 : ¬ start < m) (d2 : m < fin) (d3 : a < start) (d4 : ¬ fin < b)
    (hf : Finds g cl n a m b mid nn lo mid p start D) (hS : Steps g cl n a m b mid start fin D D2 D3 D4) : MergeTo g cl n a m b D D4 := by
  obtain ⟨s1, n1, s2, n2, s3, n3⟩ := hS
  obtain ⟨⟨y, e, σ⟩, k1, k2, k3, k4, k5, k6, k7, k8, k9, k10, k11, k12⟩ := hf
  obtain ⟨w1, h1, w2, h2, w3, w4, w5, w6, w7, w8, w9, c5, c6⟩ := N.wraps
  simp only at k1 k2 k3 k4 k5 k6 k7 k8 k9 k10 k11 k12
  subst k2; subst k4
  unfold MergeTo at *
  rw [evL_code ext_slices_symMergeCmpFunc_api_SimEvent code_slices_symMergeCmpFunc_api_SimEvent]
  have g4 : (m : Int) > (mid : Int) := Int.ofNat_lt.2 g1
  have g5 : IntKind.i64.wrap ((nn : Int) - (b : Int)) = (lo : Int) := w64_sub g2 (by have := N.hnn; have := N.hmid; have := N.hb; have := N.hbn; have := N.hm; have := N.hbb; omega)
  have e1 : ¬ (start : Int) < (m : Int) := fun h => d1 (Int.ofNat_lt.1 h)
  have e2 : (m : Int) < (fin : Int) := Int.ofNat_lt.2 d2
  have e3 : (a : Int) < (start : Int) := Int.ofNat_lt.2 d3
  have e5 : ¬ (mid : Int) < (fin : Int) := fun h => d1 (c5.1 (Int.ofNat_lt.1 h))
  have e6 : (start : Int) < (mid : Int) := Int.ofNat_lt.2 (c6.2 d2)
  have e4 : ¬ (fin : Int) < (b : Int) := fun h => d4 (Int.ofNat_lt.1 h)
  have r1 := n1 (fun h => d1 h.1); subst r1
  have r2 := s2 d3 (c6.2 d2)
  have r3 := n3 (fun h => d1 (c5.1 h.1)); subst r3
  simp only [c_slices_symMergeCmpFunc_api_SimEvent, w1, w2, w3, w4, w5, w6, w7, w8, w9, h1, h2, g4, k1, k3, k5, k6, k7, k9, k10, k11, k12, e1, e3, e5, e6, g5, r2, evts_lo, Ev.runFunc, Ev.exec, Ev.evOpers, Ev.evOper, Ev.item_op, Ev.item_I, Ev.evOp, Ev.evs, Ev.Opnd.ev, Ev.Env.get, Ev.Env.set, Ev.Env.unset, Ev.look, Ev.argVars, Ev.bin_add, Ev.bin_sub, Ev.bin_eql, Ev.bin_lss, Ev.bin_gtr, Ev.resVals, Ev.resOf, Ev.kill, Ev.leave, Ev.settle, Ev.keep, Ev.varsLo, Ev.marksLo, Ev.storeLo, Ev.SObj.lo, Ev.lo_v, Ev.lo_tup, Ev.lo_sl, Ev.lo_fn, Ev.los_nil, ↓Ev.obind, ↓Ev.itL_itB, ↓reduceIte, List.length_cons, List.length_nil, List.take_succ_cons, List.take_nil, Nat.reduceAdd, Nat.reduceEqDiff, reduceCtorEq, decide_true, decide_false, Bool.and_self, Bool.false_eq_true, and_self, Nat.zero_add, Nat.lt_add_one, eq_self]
theorem merge_way_10101 (x1 x2 y1 y2 a m b mid nn lo hi p start fin : Nat) (D D2 D3 D4 : List Evt) (N : Nums n x1 x2 y1 y2 a m b mid nn lo hi p start fin) (g1 : mid < m) (g2 : nn = b + lo)
    (d1 : ¬ start < m) (d2 : m < fin) (d3 : ¬ a < start) (d4 : fin < b)
    (hf : Finds g cl n a m b mid nn lo mid p start D) (hS : Steps g cl n a m b mid start fin D D2 D3 D4) : MergeTo g cl n a m b D D4 := by
  obtain ⟨s1, n1, s2, n2, s3, n3⟩ := hS
  obtain ⟨⟨y, e, σ⟩, k1, k2, k3, k4, k5, k6, k7, k8, k9, k10, k11, k12⟩ := hf
  obtain ⟨w1, h1, w2, h2, w3, w4, w5, w6, w7, w8, w9, c5, c6⟩ := N.wraps
  simp only at k1 k2 k3 k4 k5 k6 k7 k8 k9 k10 k11 k12
  subst k2; subst k4
  unfold MergeTo at *
  rw [evL_code ext_slices_symMergeCmpFunc_api_SimEvent code_slices_symMergeCmpFunc_api_SimEvent]
  have g4 : (m : Int) > (mid : Int) := Int.ofNat_lt.2 g1
  have g5 : IntKind.i64.wrap ((nn : Int) - (b : Int)) = (lo : Int) := w64_sub g2 (by have := N.hnn; have := N.hmid; have := N.hb; have := N.hbn; have := N.hm; have := N.hbb; omega)
  have e1 : ¬ (start : Int) < (m : Int) := fun h => d1 (Int.ofNat_lt.1 h)
  have e2 : (m : Int) < (fin : Int) := Int.ofNat_lt.2 d2
  have e3 : ¬ (a : Int) < (start : Int) := fun h => d3 (Int.ofNat_lt.1 h)
  have e5 : ¬ (mid : Int) < (fin : Int) := fun h => d1 (c5.1 (Int.ofNat_lt.1 h))
  have e6 : (start : Int) < (mid : Int) := Int.ofNat_lt.2 (c6.2 d2)
  have e4 : (fin : Int) < (b : Int) := Int.ofNat_lt.2 d4
  have r1 := n1 (fun h => d1 h.1); subst r1
  have r2 := n2 (fun h => d3 h.1); subst r2
  have r3 := n3 (fun h => d1 (c5.1 h.1)); subst r3
  simp only [c_slices_symMergeCmpFunc_api_SimEvent, w1, w2, w3, w4, w5, w6, w7, w8, w9, h1, h2, g4, k1, k3, k6, k7, k10, k11, k12, e1, e3, e5, g5, evts_lo, Ev.runFunc, Ev.exec, Ev.evOpers, Ev.evOper, Ev.item_op, Ev.evOp, Ev.Opnd.ev, Ev.Env.get, Ev.Env.set, Ev.Env.unset, Ev.look, Ev.argVars, Ev.bin_add, Ev.bin_sub, Ev.bin_eql, Ev.bin_lss, Ev.bin_gtr, Ev.resVals, Ev.resOf, Ev.kill, Ev.leave, Ev.settle, Ev.keep, Ev.varsLo, Ev.marksLo, Ev.storeLo, Ev.SObj.lo, Ev.lo_v, Ev.lo_tup, Ev.lo_sl, Ev.lo_fn, Ev.los_nil, ↓Ev.obind, ↓Ev.itL_itB, ↓reduceIte, List.length_cons, List.length_nil, List.take_succ_cons, List.take_nil, Nat.reduceAdd, Nat.reduceEqDiff, reduceCtorEq, decide_true, decide_false, Bool.and_self, Bool.false_eq_true, and_self, Nat.zero_add, Nat.lt_add_one, eq_self]
theorem merge_way_10100 (x1 x2 y1 y2 a m b mid nn lo hi p start fin : Nat) (D D2 D3 D4 : List Evt) (N : Nums n x1 x2 y1 y2 a m b mid nn lo hi p start fin) (g1 : mid < m) (g2 : nn = b + lo)
    (d1 : ¬ start < m) (d2 : m < fin) (d3 : ¬ a < start) (d4 : ¬ fin < b)
    (hf : Finds g cl n a m b mid nn lo mid p start D) (hS : Steps g cl n a m b mid start fin D D2 D3 D4) : MergeTo g cl n a m b D D4 := by
  obtain ⟨s1, n1, s2, n2, s3, n3⟩ := hS
  obtain ⟨⟨y, e, σ⟩, k1, k2, k3, k4, k5, k6, k7, k8, k9, k10, k11, k12⟩ := hf
  obtain ⟨w1, h1, w2, h2, w3, w4, w5, w6, w7, w8, w9, c5, c6⟩ := N.wraps
  simp only at k1 k2 k3 k4 k5 k6 k7 k8 k9 k10 k11 k12
  subst k2; subst k4
  unfold MergeTo at *
  rw [evL_code ext_slices_symMergeCmpFunc_api_SimEvent code_slices_symMergeCmpFunc_api_SimEvent]
  have g4 : (m : Int) > (mid : Int) := Int.ofNat_lt.2 g1
  have g5 : IntKind.i64.wrap ((nn : Int) - (b : Int)) = (lo : Int) := w64_sub g2 (by have := N.hnn; have := N.hmid; have := N.hb; have := N.hbn; have := N.hm; have := N.hbb; omega)
  have e1 : ¬ (start : Int) < (m : Int) := fun h => d1 (Int.ofNat_lt.1 h)
  have e2 : (m : Int) < (fin : Int) := Int.ofNat_lt.2 d2
  have e3 : ¬ (a : Int) < (start : Int) := fun h => d3 (Int.ofNat_lt.1 h)
  have e5 : ¬ (mid : Int) < (fin : Int) := fun h => d1 (c5.1 (Int.ofNat_lt.1 h))
  have e6 : (start : Int) < (mid : Int) := Int.ofNat_lt.2 (c6.2 d2)
  have e4 : ¬ (fin : Int) < (b : Int) := fun h => d4 (Int.ofNat_lt.1 h)
  have r1 := n1 (fun h => d1 h.1); subst r1
  have r2 := n2 (fun h => d3 h.1); subst r2
  have r3 := n3 (fun h => d1 (c5.1 h.1)); subst r3
  simp only [c_slices_symMergeCmpFunc_api_SimEvent, w1, w2, w3, w4, w5, w6, w7, w8, w9, h1, h2, g4, k1, k3, k6, k7, k10, k11, k12, e1, e3, e5, g5, evts_lo, Ev.runFunc, Ev.exec, Ev.evOpers, Ev.evOper, Ev.item_op, Ev.evOp, Ev.Opnd.ev, Ev.Env.get, Ev.Env.set, Ev.Env.unset, Ev.look, Ev.argVars, Ev.bin_add, Ev.bin_sub, Ev.bin_eql, Ev.bin_lss, Ev.bin_gtr, Ev.resVals, Ev.resOf, Ev.kill, Ev.leave, Ev.settle, Ev.keep, Ev.varsLo, Ev.marksLo, Ev.storeLo, Ev.SObj.lo, Ev.lo_v, Ev.lo_tup, Ev.lo_sl, Ev.lo_fn, Ev.los_nil, ↓Ev.obind, ↓Ev.itL_itB, ↓reduceIte, List.length_cons, List.length_nil, List.take_succ_cons, List.take_nil, Nat.reduceAdd, Nat.reduceEqDiff, reduceCtorEq, decide_true, decide_false, Bool.and_self, Bool.false_eq_true, and_self, Nat.zero_add, Nat.lt_add_one, eq_self]
theorem merge_way_10011 (x1 x2 y1 y2 a m b mid nn lo hi p start fin : Nat) (D D2 D3 D4 : List Evt) (N : Nums n x1 x2 y1 y2 a m b mid nn lo hi p start fin) (g1 : mid < m) (g2 : nn = b + lo)
    (d1 : ¬ start < m) (d2 : ¬ m < fin) (d3 : a < start) (d4 : fin < b)
    (hf : Finds g cl n a m b mid nn lo mid p start D) (hS : Steps g cl n a m b mid start fin D D2 D3 D4) : MergeTo g cl n a m b D D4 := by
  obtain ⟨s1, n1, s2, n2, s3, n3⟩ := hS
  obtain ⟨⟨y, e, σ⟩, k1, k2, k3, k4, k5, k6, k7, k8, k9, k10, k11, k12⟩ := hf
  obtain ⟨w1, h1, w2, h2, w3, w4, w5, w6, w7, w8, w9, c5, c6⟩ := N.wraps
  simp only at k1 k2 k3 k4 k5 k6 k7 k8 k9 k10 k11 k12
  subst k2; subst k4
  unfold MergeTo at *
  rw [evL_code ext_slices_symMergeCmpFunc_api_SimEvent code_slices_symMergeCmpFunc_api_SimEvent]
  have g4 : (m : Int) > (mid : Int) := Int.ofNat_lt.2 g1
  have g5 : IntKind.i64.wrap ((nn : Int) - (b : Int)) = (lo : Int) := w64_sub g2 (by have := N.hnn; have := N.hmid; have := N.hb; have := N.hbn; have := N.hm; have := N.hbb; omega)
  have e1 : ¬ (start : Int) < (m : Int) := fun h => d1 (Int.ofNat_lt.1 h)
  have e2 : ¬ (m : Int) < (fin : Int) := fun h => d2 (Int.ofNat_lt.1 h)
  have e3 : (a : Int) < (start : Int) := Int.ofNat_lt.2 d3
  have e5 : ¬ (mid : Int) < (fin : Int) := fun h => d1 (c5.1 (Int.ofNat_lt.1 h))
  have e6 : ¬ (start : Int) < (mid : Int) := fun h => d2 (c6.1 (Int.ofNat_lt.1 h))
  have e4 : (fin : Int) < (b : Int) := Int.ofNat_lt.2 d4
  have r1 := n1 (fun h => d1 h.1); subst r1
  have r2 := n2 (fun h => d2 (c6.1 h.2)); subst r2
  have r3 := n3 (fun h => d1 (c5.1 h.1)); subst r3
  simp only [c_slices_symMergeCmpFunc_api_SimEvent, w1, w2, w3, w4, w5, w6, w7, w8, w9, h1, h2, g4, k1, k3, k6, k7, k10, k11, k12, e1, e3, e5, e6, g5, evts_lo, Ev.runFunc, Ev.exec, Ev.evOpers, Ev.evOper, Ev.item_op, Ev.evOp, Ev.Opnd.ev, Ev.Env.get, Ev.Env.set, Ev.Env.unset, Ev.look, Ev.argVars, Ev.bin_add, Ev.bin_sub, Ev.bin_eql, Ev.bin_lss, Ev.bin_gtr, Ev.resVals, Ev.resOf, Ev.kill, Ev.leave, Ev.settle, Ev.keep, Ev.varsLo, Ev.marksLo, Ev.storeLo, Ev.SObj.lo, Ev.lo_v, Ev.lo_tup, Ev.lo_sl, Ev.lo_fn, Ev.los_nil, ↓Ev.obind, ↓Ev.itL_itB, ↓reduceIte, List.length_cons, List.length_nil, List.take_succ_cons, List.take_nil, Nat.reduceAdd, Nat.reduceEqDiff, reduceCtorEq, decide_true, decide_false, Bool.and_self, Bool.false_eq_true, and_self, Nat.zero_add, Nat.lt_add_one, eq_self]
theorem merge_way_10010 (x1 x2 y1 y2 a m b mid nn lo hi p start fin : Nat) (D D2 D3 D4 : List Evt) (N : Nums n x1 x2 y1 y2 a m b mid nn lo hi p start fin) (g1 : mid < m) (g2 : nn = b + lo)
    (d1 : ¬ start < m) (d2 : ¬ m < fin) (d3 : a < start) (d4 : ¬ fin < b)
    (hf : Finds g cl n a m b mid nn lo mid p start D) (hS : Steps g cl n a m b mid start fin D D2 D3 D4) : MergeTo g cl n a m b D D4 := by
  obtain ⟨s1, n1, s2, n2, s3, n3⟩ := hS
  obtain ⟨⟨y, e, σ⟩, k1, k2, k3, k4, k5, k6, k7, k8, k9, k10, k11, k12⟩ := hf
  obtain ⟨w1, h1, w2, h2, w3, w4, w5, w6, w7, w8, w9, c5, c6⟩ := N.wraps
  simp only at k1 k2 k3 k4 k5 k6 k7 k8 k9 k10 k11 k12
  subst k2; subst k4
  unfold MergeTo at *
  rw [evL_code ext_slices_symMergeCmpFunc_api_SimEvent code_slices_symMergeCmpFunc_api_SimEvent]
  have g4 : (m : Int) > (mid : Int) := Int.ofNat_lt.2 g1
  have g5 : IntKind.i64.wrap ((nn : Int) - (b : Int)) = (lo : Int) := w64_sub g2 (by have := N.hnn; have := N.hmid; have := N.hb; have := N.hbn; have := N.hm; have := N.hbb; omega)
  have e1 : ¬ (start : Int) < (m : Int) := fun h => d1 (Int.ofNat_lt.1 h)
  have e2 : ¬ (m : Int) < (fin : Int) := fun h => d2 (Int.ofNat_lt.1 h)
  have e3 : (a : Int) < (start : Int) := Int.ofNat_lt.2 d3
  have e5 : ¬ (mid : Int) < (fin : Int) := fun h => d1 (c5.1 (Int.ofNat_lt.1 h))
  have e6 : ¬ (start : Int) < (mid : Int) := fun h => d2 (c6.1 (Int.ofNat_lt.1 h))
  have e4 : ¬ (fin : Int) < (b : Int) := fun h => d4 (Int.ofNat_lt.1 h)
  have r1 := n1 (fun h => d1 h.1); subst r1
  have r2 := n2 (fun h => d2 (c6.1 h.2)); subst r2
  have r3 := n3 (fun h => d1 (c5.1 h.1)); subst r3
  simp only [c_slices_symMergeCmpFunc_api_SimEvent, w1, w2, w3, w4, w5, w6, w7, w8, w9, h1, h2, g4, k1, k3, k6, k7, k10, k11, k12, e1, e3, e5, e6, g5, evts_lo, Ev.runFunc, Ev.exec, Ev.evOpers, Ev.evOper, Ev.item_op, Ev.evOp, Ev.Opnd.ev, Ev.Env.get, Ev.Env.set, Ev.Env.unset, Ev.look, Ev.argVars, Ev.bin_add, Ev.bin_sub, Ev.bin_eql, Ev.bin_lss, Ev.bin_gtr, Ev.resVals, Ev.resOf, Ev.kill, Ev.leave, Ev.settle, Ev.keep, Ev.varsLo, Ev.marksLo, Ev.storeLo, Ev.SObj.lo, Ev.lo_v, Ev.lo_tup, Ev.lo_sl, Ev.lo_fn, Ev.los_nil, ↓Ev.obind, ↓Ev.itL_itB, ↓reduceIte, List.length_cons, List.length_nil, List.take_succ_cons, List.take_nil, Nat.reduceAdd, Nat.reduceEqDiff, reduceCtorEq, decide_true, decide_false, Bool.and_self, Bool.false_eq_true, and_self, Nat.zero_add, Nat.lt_add_one, eq_self]
theorem merge_way_10001 (x1 x2 y1 y2 a m b mid nn lo hi p start fin : Nat) (D D2 D3 D4 : List Evt) (N : Nums n x1 x2 y1 y2 a m b mid nn lo hi p start fin) (g1 : mid < m) (g2 : nn = b + lo)
    (d1 : ¬ start < m) (d2 : ¬ m < fin) (d3 : ¬ a < start) (d4 : fin < b)
    (hf : Finds g cl n a m b mid nn lo mid p start D) (hS : Steps g cl n a m b mid start fin D D2 D3 D4) : MergeTo g cl n a m b D D4 := by
  obtain ⟨s1, n1, s2, n2, s3, n3⟩ := hS
  obtain ⟨⟨y, e, σ⟩, k1, k2, k3, k4, k5, k6, k7, k8, k9, k10, k11, k12⟩ := hf
  obtain ⟨w1, h1, w2, h2, w3, w4, w5, w6, w7, w8, w9, c5, c6⟩ := N.wraps
  simp only at k1 k2 k3 k4 k5 k6 k7 k8 k9 k10 k11 k12
  subst k2; subst k4
  unfold MergeTo at *
  rw [evL_code ext_slices_symMergeCmpFunc_api_SimEvent code_slices_symMergeCmpFunc_api_SimEvent]
  have g4 : (m : Int) > (mid : Int) := Int.ofNat_lt.2 g1
  have g5 : IntKind.i64.wrap ((nn : Int) - (b : Int)) = (lo : Int) := w64_sub g2 (by have := N.hnn; have := N.hmid; have := N.hb; have := N.hbn; have := N.hm; have := N.hbb; omega)
  have e1 : ¬ (start : Int) < (m : Int) := fun h => d1 (Int.ofNat_lt.1 h)
  have e2 : ¬ (m : Int) < (fin : Int) := fun h => d2 (Int.ofNat_lt.1 h)
  have e3 : ¬ (a : Int) < (start : Int) := fun h => d3 (Int.ofNat_lt.1 h)
  have e5 : ¬ (mid : Int) < (fin : Int) := fun h => d1 (c5.1 (Int.ofNat_lt.1 h))
  have e6 : ¬ (start : Int) < (mid : Int) := fun h => d2 (c6.1 (Int.ofNat_lt.1 h))
  have e4 : (fin : Int) < (b : Int) := Int.ofNat_lt.2 d4
  have r1 := n1 (fun h => d1 h.1); subst r1
  have r2 := n2 (fun h => d3 h.1); subst r2
  have r3 := n3 (fun h => d1 (c5.1 h.1)); subst r3
  simp only [c_slices_symMergeCmpFunc_api_SimEvent, w1, w2, w3, w4, w5, w6, w7, w8, w9, h1, h2, g4, k1, k3, k6, k7, k10, k11, k12, e1, e3, e5, g5, evts_lo, Ev.runFunc, Ev.exec, Ev.evOpers, Ev.evOper, Ev.item_op, Ev.evOp, Ev.Opnd.ev, Ev.Env.get, Ev.Env.set, Ev.Env.unset, Ev.look, Ev.argVars, Ev.bin_add, Ev.bin_sub, Ev.bin_eql, Ev.bin_lss, Ev.bin_gtr, Ev.resVals, Ev.resOf, Ev.kill, Ev.leave, Ev.settle, Ev.keep, Ev.varsLo, Ev.marksLo, Ev.storeLo, Ev.SObj.lo, Ev.lo_v, Ev.lo_tup, Ev.lo_sl, Ev.lo_fn, Ev.los_nil, ↓Ev.obind, ↓Ev.itL_itB, ↓reduceIte, List.length_cons, List.length_nil, List.take_succ_cons, List.take_nil, Nat.reduceAdd, Nat.reduceEqDiff, reduceCtorEq, decide_true, decide_false, Bool.and_self, Bool.false_eq_true, and_self, Nat.zero_add, Nat.lt_add_one, eq_self]
theorem merge_way_10000 (x1 x2 y1 y2 a m b mid nn lo hi p start fin : Nat) (D D2 D3 D4 : List Evt) (N : Nums n x1 x2 y1 y2 a m b mid nn lo hi p start fin) (g1 : mid < m) (g2 : nn = b + lo)
    (d1 : ¬ start < m) (d2 : ¬ m < fin) (d3 : ¬ a < start) (d4 : ¬ fin < b)
    (hf : Finds g cl n a m b mid nn lo mid p start D) (hS : Steps g cl n a m b mid start fin D D2 D3 D4) : MergeTo g cl n a m b D D4 := by
  obtain ⟨s1, n1, s2, n2, s3, n3⟩ := hS
  obtain ⟨⟨y, e, σ⟩, k1, k2, k3, k4, k5, k6, k7, k8, k9, k10, k11, k12⟩ := hf
  obtain ⟨w1, h1, w2, h2, w3, w4, w5, w6, w7, w8, w9, c5, c6⟩ := N.wraps
  simp only at k1 k2 k3 k4 k5 k6 k7 k8 k9 k10 k11 k12
  subst k2; subst k4
  unfold MergeTo at *
  rw [evL_code ext_slices_symMergeCmpFunc_api_SimEvent code_slices_symMergeCmpFunc_api_SimEvent]
  have g4 : (m : Int) > (mid : Int) := Int.ofNat_lt.2 g1
  have g5 : IntKind.i64.wrap ((nn : Int) - (b : Int)) = (lo : Int) := w64_sub g2 (by have := N.hnn; have := N.hmid; have := N.hb; have := N.hbn; have := N.hm; have := N.hbb; omega)
  have e1 : ¬ (start : Int) < (m : Int) := fun h => d1 (Int.ofNat_lt.1 h)
  have e2 : ¬ (m : Int) < (fin : Int) := fun h => d2 (Int.ofNat_lt.1 h)
  have e3 : ¬ (a : Int) < (start : Int) := fun h => d3 (Int.ofNat_lt.1 h)
  have e5 : ¬ (mid : Int) < (fin : Int) := fun h => d1 (c5.1 (Int.ofNat_lt.1 h))
  have e6 : ¬ (start : Int) < (mid : Int) := fun h => d2 (c6.1 (Int.ofNat_lt.1 h))
  have e4 : ¬ (fin : Int) < (b : Int) := fun h => d4 (Int.ofNat_lt.1 h)
  have r1 := n1 (fun h => d1 h.1); subst r1
  have r2 := n2 (fun h => d3 h.1); subst r2
  have r3 := n3 (fun h => d1 (c5.1 h.1)); subst r3
  simp only [c_slices_symMergeCmpFunc_api_SimEvent, w1, w2, w3, w4, w5, w6, w7, w8, w9, h1, h2, g4, k1, k3, k6, k7, k10, k11, k12, e1, e3, e5, g5, evts_lo, Ev.runFunc, Ev.exec, Ev.evOpers, Ev.evOper, Ev.item_op, Ev.evOp, Ev.Opnd.ev, Ev.Env.get, Ev.Env.set, Ev.Env.unset, Ev.look, Ev.argVars, Ev.bin_add, Ev.bin_sub, Ev.bin_eql, Ev.bin_lss, Ev.bin_gtr, Ev.resVals, Ev.resOf, Ev.kill, Ev.leave, Ev.settle, Ev.keep, Ev.varsLo, Ev.marksLo, Ev.storeLo, Ev.SObj.lo, Ev.lo_v, Ev.lo_tup, Ev.lo_sl, Ev.lo_fn, Ev.los_nil, ↓Ev.obind, ↓Ev.itL_itB, ↓reduceIte, List.length_cons, List.length_nil, List.take_succ_cons, List.take_nil, Nat.reduceAdd, Nat.reduceEqDiff, reduceCtorEq, decide_true, decide_false, Bool.and_self, Bool.false_eq_true, and_self, Nat.zero_add, Nat.lt_add_one, eq_self]
theorem merge_way_01111 (x1 x2 y1 y2 a m b mid nn lo hi p start fin : Nat) (D D2 D3 D4 : List Evt) (N : Nums n x1 x2 y1 y2 a m b mid nn lo hi p start fin) (g1 : ¬ mid < m)
    (d1 : start < m) (d2 : m < fin) (d3 : a < start) (d4 : fin < b)
    (hf : Finds g cl n a m b mid nn a m p start D) (hS : Steps g cl n a m b mid start fin D D2 D3 D4) : MergeTo g cl n a m b D D4 := by
  obtain ⟨s1, n1, s2, n2, s3, n3⟩ := hS
  obtain ⟨⟨y, e, σ⟩, k1, k2, k3, k4, k5, k6, k7, k8, k9, k10, k11, k12⟩ := hf
  obtain ⟨w1, h1, w2, h2, w3, w4, w5, w6, w7, w8, w9, c5, c6⟩ := N.wraps
  simp only at k1 k2 k3 k4 k5 k6 k7 k8 k9 k10 k11 k12
  subst k2; subst k4
  unfold MergeTo at *
  rw [evL_code ext_slices_symMergeCmpFunc_api_SimEvent code_slices_symMergeCmpFunc_api_SimEvent]
  have g4 : ¬ (m : Int) > (mid : Int) := fun h => g1 (Int.ofNat_lt.1 h)
  have e1 : (start : Int) < (m : Int) := Int.ofNat_lt.2 d1
  have e2 : (m : Int) < (fin : Int) := Int.ofNat_lt.2 d2
  have e3 : (a : Int) < (start : Int) := Int.ofNat_lt.2 d3
  have e5 : (mid : Int) < (fin : Int) := Int.ofNat_lt.2 (c5.2 d1)
  have e6 : (start : Int) < (mid : Int) := Int.ofNat_lt.2 (c6.2 d2)
  have e4 : (fin : Int) < (b : Int) := Int.ofNat_lt.2 d4
  have r1 := s1 d1 d2
  have r2 := s2 d3 (c6.2 d2)
  have r3 := s3 (c5.2 d1) d4
  simp only [c_slices_symMergeCmpFunc_api_SimEvent, w1, w2, w3, w4, w5, w6, w7, w8, w9, h1, h2, g4, k1, k3, k5, k6, k7, k8, k9, k10, k11, k12, e1, e2, e3, e5, e6, r1, r2, r3, e4, evts_lo, Ev.runFunc, Ev.exec, Ev.evOpers, Ev.evOper, Ev.item_op, Ev.item_I, Ev.evOp, Ev.evs, Ev.Opnd.ev, Ev.Env.get, Ev.Env.set, Ev.look, Ev.argVars, Ev.bin_add, Ev.bin_sub, Ev.bin_eql, Ev.bin_lss, Ev.bin_gtr, Ev.resVals, Ev.resOf, Ev.kill, Ev.leave, Ev.settle, Ev.keep, Ev.varsLo, Ev.marksLo, Ev.storeLo, Ev.SObj.lo, Ev.lo_v, Ev.lo_tup, Ev.lo_sl, Ev.lo_fn, Ev.los_nil, ↓Ev.obind, ↓Ev.itL_itB, ↓reduceIte, List.length_cons, List.length_nil, List.take_succ_cons, List.take_nil, Nat.reduceAdd, Nat.reduceEqDiff, reduceCtorEq, decide_true, decide_false, Bool.and_self, Bool.false_eq_true, and_self, Nat.zero_add, Nat.lt_add_one, eq_self]
theorem merge_way_01110 (x1 x2 y1 y2 a m b mid nn lo hi p start fin : Nat) (D D2 D3 D4 : List Evt) (N : Nums n x1 x2 y1 y2 a m b mid nn lo hi p start fin) (g1 : ¬ mid < m)
    (d1 : start < m) (d2 : m < fin) (d3 : a < start) (d4 : ¬ fin < b)
    (hf : Finds g cl n a m b mid nn a m p start D) (hS : Steps g cl n a m b mid start fin D D2 D3 D4) : MergeTo g cl n a m b D D4 := by
  obtain ⟨s1, n1, s2, n2, s3, n3⟩ := hS
  obtain ⟨⟨y, e, σ⟩, k1, k2, k3, k4, k5, k6, k7, k8, k9, k10, k11, k12⟩ := hf
  obtain ⟨w1, h1, w2, h2, w3, w4, w5, w6, w7, w8, w9, c5, c6⟩ := N.wraps
  simp only at k1 k2 k3 k4 k5 k6 k7 k8 k9 k10 k11 k12
  subst k2; subst k4
  unfold MergeTo at *
  rw [evL_code ext_slices_symMergeCmpFunc_api_SimEvent code_slices_symMergeCmpFunc_api_SimEvent]
  have g4 : ¬ (m : Int) > (mid : Int) := fun h => g1 (Int.ofNat_lt.1 h)
  have e1 : (start : Int) < (m : Int) := Int.ofNat_lt.2 d1
  have e2 : (m : Int) < (fin : Int) := Int.ofNat_lt.2 d2
  have e3 : (a : Int) < (start : Int) := Int.ofNat_lt.2 d3
  have e5 : (mid : Int) < (fin : Int) := Int.ofNat_lt.2 (c5.2 d1)
  have e6 : (start : Int) < (mid : Int) := Int.ofNat_lt.2 (c6.2 d2)
  have e4 : ¬ (fin : Int) < (b : Int) := fun h => d4 (Int.ofNat_lt.1 h)
  have r1 := s1 d1 d2
  have r2 := s2 d3 (c6.2 d2)
  have r3 := n3 (fun h => d4 h.2); subst r3
  simp only [c_slices_symMergeCmpFunc_api_SimEvent, w1, w2, w3, w4, w5, w6, w7, w8, w9, h1, h2, g4, k1, k3, k5, k6, k7, k8, k9, k10, k11, k12, e1, e2, e3, e5, e6, r1, r2, e4, evts_lo, Ev.runFunc, Ev.exec, Ev.evOpers, Ev.evOper, Ev.item_op, Ev.item_I, Ev.evOp, Ev.evs, Ev.Opnd.ev, Ev.Env.get, Ev.Env.set, Ev.look, Ev.argVars, Ev.bin_add, Ev.bin_sub, Ev.bin_eql, Ev.bin_lss, Ev.bin_gtr, Ev.resVals, Ev.resOf, Ev.kill, Ev.leave, Ev.settle, Ev.keep, Ev.varsLo, Ev.marksLo, Ev.storeLo, Ev.SObj.lo, Ev.lo_v, Ev.lo_tup, Ev.lo_sl, Ev.lo_fn, Ev.los_nil, ↓Ev.obind, ↓Ev.itL_itB, ↓reduceIte, List.length_cons, List.length_nil, List.take_succ_cons, List.take_nil, Nat.reduceAdd, Nat.reduceEqDiff, reduceCtorEq, decide_true, decide_false, Bool.and_self, Bool.false_eq_true, and_self, Nat.zero_add, Nat.lt_add_one, eq_self]
theorem merge_way_01101 (x1 x2 y1 y2 a m b mid nn lo hi p start fin : Nat) (D D2 D3 D4 : List Evt) (N : Nums n x1 x2 y1 y2 a m b mid nn lo hi p start fin) (g1 : ¬ mid < m)
    (d1 : start < m) (d2 : m < fin) (d3 : ¬ a < start) (d4 : fin < b)
    (hf : Finds g cl n a m b mid nn a m p start D) (hS : Steps g cl n a m b mid start fin D D2 D3 D4) : MergeTo g cl n a m b D D4 := by
  obtain ⟨s1, n1, s2, n2, s3, n3⟩ := hS
  obtain ⟨⟨y, e, σ⟩, k1, k2, k3, k4, k5, k6, k7, k8, k9, k10, k11, k12⟩ := hf
  obtain ⟨w1, h1, w2, h2, w3, w4, w5, w6, w7, w8, w9, c5, c6⟩ := N.wraps
  simp only at k1 k2 k3 k4 k5 k6 k7 k8 k9 k10 k11 k12
  subst k2; subst k4
  unfold MergeTo at *
  rw [evL_code ext_slices_symMergeCmpFunc_api_SimEvent code_slices_symMergeCmpFunc_api_SimEvent]
  have g4 : ¬ (m : Int) > (mid : Int) := fun h => g1 (Int.ofNat_lt.1 h)
  have e1 : (start : Int) < (m : Int) := Int.ofNat_lt.2 d1
  have e2 : (m : Int) < (fin : Int) := Int.ofNat_lt.2 d2
  have e3 : ¬ (a : Int) < (start : Int) := fun h => d3 (Int.ofNat_lt.1 h)
  have e5 : (mid : Int) < (fin : Int) := Int.ofNat_lt.2 (c5.2 d1)
  have e6 : (start : Int) < (mid : Int) := Int.ofNat_lt.2 (c6.2 d2)
  have e4 : (fin : Int) < (b : Int) := Int.ofNat_lt.2 d4
  have r1 := s1 d1 d2
  have r2 := n2 (fun h => d3 h.1); subst r2
  have r3 := s3 (c5.2 d1) d4
  simp only [c_slices_symMergeCmpFunc_api_SimEvent, w1, w2, w3, w4, w5, w6, w7, w8, w9, h1, h2, g4, k1, k3, k5, k6, k7, k8, k9, k10, k11, k12, e1, e2, e3, e5, r1, r3, e4, evts_lo, Ev.runFunc, Ev.exec, Ev.evOpers, Ev.evOper, Ev.item_op, Ev.item_I, Ev.evOp, Ev.evs, Ev.Opnd.ev, Ev.Env.get, Ev.Env.set, Ev.Env.unset, Ev.look, Ev.argVars, Ev.bin_add, Ev.bin_sub, Ev.bin_eql, Ev.bin_lss, Ev.bin_gtr, Ev.resVals, Ev.resOf, Ev.kill, Ev.leave, Ev.settle, Ev.keep, Ev.varsLo, Ev.marksLo, Ev.storeLo, Ev.SObj.lo, Ev.lo_v, Ev.lo_tup, Ev.lo_sl, Ev.lo_fn, Ev.los_nil, ↓Ev.obind, ↓Ev.itL_itB, ↓reduceIte, List.length_cons, List.length_nil, List.take_succ_cons, List.take_nil, Nat.reduceAdd, Nat.reduceEqDiff, reduceCtorEq, decide_true, decide_false, Bool.and_self, Bool.false_eq_true, and_self, Nat.zero_add, Nat.lt_add_one, eq_self]
theorem merge_way_01100 (x1 x2 y1 y2 a m b mid nn lo hi p start fin : Nat) (D D2 D3 D4 : List Evt) (N : Nums n x1 x2 y1 y2 a m b mid nn lo hi p start fin) (g1 : ¬ mid < m)
    (d1 : start < m) (d2 : m < fin) (d3 : ¬ a < start) (d4 : ¬ fin < b)
    (hf : Finds g cl n a m b mid nn a m p start D) (hS : Steps g cl n a m b mid start fin D D2 D3 D4) : MergeTo g cl n a m b D D4 := by
  obtain ⟨s1, n1, s2, n2, s3, n3⟩ := hS
  obtain ⟨⟨y, e, σ⟩, k1, k2, k3, k4, k5, k6, k7, k8, k9, k10, k11, k12⟩ := hf
  obtain ⟨w1, h1, w2, h2, w3, w4, w5, w6, w7, w8, w9, c5, c6⟩ := N.wraps
  simp only at k1 k2 k3 k4 k5 k6 k7 k8 k9 k10 k11 k12
  subst k2; subst k4
  unfold MergeTo at *
  rw [evL_code ext_slices_symMergeCmpFunc_api_SimEvent code_slices_symMergeCmpFunc_api_SimEvent]
  have g4 : ¬ (m : Int) > (mid : Int) := fun h => g1 (Int.ofNat_lt.1 h)
  have e1 : (start : Int) < (m : Int) := Int.ofNat_lt.2 d1
  have e2 : (m : Int) < (fin : Int) := Int.ofNat_lt.2 d2
  have e3 : ¬ (a : Int) < (start : Int) := fun h => d3 (Int.ofNat_lt.1 h)
  have e5 : (mid : Int) < (fin : Int) := Int.ofNat_lt.2 (c5.2 d1)
  have e6 : (start : Int) < (mid : Int) := Int.ofNat_lt.2 (c6.2 d2)
  have e4 : ¬ (fin : Int) < (b : Int) := fun h => d4 (Int.ofNat_lt.1 h)
  have r1 := s1 d1 d2
  have r2 := n2 (fun h => d3 h.1); subst r2
  have r3 := n3 (fun h => d4 h.2); subst r3
  simp only [c_slices_symMergeCmpFunc_api_SimEvent, w1, w2, w3, w4, w5, w6, w7, w8, w9, h1, h2, g4, k1, k3, k5, k6, k7, k8, k9, k10, k11, k12, e1, e2, e3, e5, r1, e4, evts_lo, Ev.runFunc, Ev.exec, Ev.evOpers, Ev.evOper, Ev.item_op, Ev.item_I, Ev.evOp, Ev.evs, Ev.Opnd.ev, Ev.Env.get, Ev.Env.set, Ev.Env.unset, Ev.look, Ev.argVars, Ev.bin_add, Ev.bin_sub, Ev.bin_eql, Ev.bin_lss, Ev.bin_gtr, Ev.resVals, Ev.resOf, Ev.kill, Ev.leave, Ev.settle, Ev.keep, Ev.varsLo, Ev.marksLo, Ev.storeLo, Ev.SObj.lo, Ev.lo_v, Ev.lo_tup, Ev.lo_sl, Ev.lo_fn, Ev.los_nil, ↓Ev.obind, ↓Ev.itL_itB, ↓reduceIte, List.length_cons, List.length_nil, List.take_succ_cons, List.take_nil, Nat.reduceAdd, Nat.reduceEqDiff, reduceCtorEq, decide_true, decide_false, Bool.and_self, Bool.false_eq_true, and_self, Nat.zero_add, Nat.lt_add_one, eq_self]
theorem merge_way_01011 (x1 x2 y1 y2 a m b mid nn lo hi p start fin : Nat) (D D2 D3 D4 : List Evt) (N : Nums n x1 x2 y1 y2 a m b mid nn lo hi p start fin) (g1 : ¬ mid < m)
    (d1 : start < m) (d2 : ¬ m < fin) (d3 : a < start) (d4 : fin < b)
    (hf : Finds g cl n a m b mid nn a m p start D) (hS : Steps g cl n a m b mid start fin D D2 D3 D4) : MergeTo g cl n a m b D D4 := by
  obtain ⟨s1, n1, s2, n2, s3, n3⟩ := hS
  obtain ⟨⟨y, e, σ⟩, k1, k2, k3, k4, k5, k6, k7, k8, k9, k10, k11, k12⟩ := hf
  obtain ⟨w1, h1, w2, h2, w3, w4, w5, w6, w7, w8, w9, c5, c6⟩ := N.wraps
  simp only at k1 k2 k3 k4 k5 k6 k7 k8 k9 k10 k11 k12
  subst k2; subst k4
  unfold MergeTo at *
  rw [evL_code ext_slices_symMergeCmpFunc_api_SimEvent code_slices_symMergeCmpFunc_api_SimEvent]
  have g4 : ¬ (m : Int) > (mid : Int) := fun h => g1 (Int.ofNat_lt.1 h)
  have e1 : (start : Int) < (m : Int) := Int.ofNat_lt.2 d1
  have e2 : ¬ (m : Int) < (fin : Int) := fun h => d2 (Int.ofNat_lt.1 h)
  have e3 : (a : Int) < (start : Int) := Int.ofNat_lt.2 d3
  have e5 : (mid : Int) < (fin : Int) := Int.ofNat_lt.2 (c5.2 d1)
  have e6 : ¬ (start : Int) < (mid : Int) := fun h => d2 (c6.1 (Int.ofNat_lt.1 h))
  have e4 : (fin : Int) < (b : Int) := Int.ofNat_lt.2 d4
  have r1 := n1 (fun h => d2 h.2); subst r1
  have r2 := n2 (fun h => d2 (c6.1 h.2)); subst r2
  have r3 := s3 (c5.2 d1) d4
  simp only [c_slices_symMergeCmpFunc_api_SimEvent, w1, w2, w3, w4, w5, w6, w7, w8, w9, h1, h2, g4, k1, k3, k5, k6, k7, k8, k9, k10, k11, k12, e1, e2, e3, e5, e6, r3, e4, evts_lo, Ev.runFunc, Ev.exec, Ev.evOpers, Ev.evOper, Ev.item_op, Ev.item_I, Ev.evOp, Ev.evs, Ev.Opnd.ev, Ev.Env.get, Ev.Env.set, Ev.look, Ev.argVars, Ev.bin_add, Ev.bin_sub, Ev.bin_eql, Ev.bin_lss, Ev.bin_gtr, Ev.resVals, Ev.resOf, Ev.kill, Ev.leave, Ev.settle, Ev.keep, Ev.varsLo, Ev.marksLo, Ev.storeLo, Ev.SObj.lo, Ev.lo_v, Ev.lo_tup, Ev.lo_sl, Ev.lo_fn, Ev.los_nil, ↓Ev.obind, ↓Ev.itL_itB, ↓reduceIte, List.length_cons, List.length_nil, List.take_succ_cons, List.take_nil, Nat.reduceAdd, Nat.reduceEqDiff, reduceCtorEq, decide_true, decide_false, Bool.and_self, Bool.false_eq_true, and_self, Nat.zero_add, Nat.lt_add_one, eq_self]
theorem merge_way_01010 (x1 x2 y1 y2 a m b mid nn lo hi p start fin : Nat) (D D2 D3 D4 : List Evt) (N : Nums n x1 x2 y1 y2 a m b mid nn lo hi p start fin) (g1 : ¬ mid < m)
    (d1 : start < m) (d2 : ¬ m < fin) (d3 : a < start) (d4 : ¬ fin < b)
    (hf : Finds g cl n a m b mid nn a m p start D) (hS : Steps g cl n a m b mid start fin D D2 D3 D4) : MergeTo g cl n a m b D D4 := by
  obtain ⟨s1, n1, s2, n2, s3, n3⟩ := hS
  obtain ⟨⟨y, e, σ⟩, k1, k2, k3, k4, k5, k6, k7, k8, k9, k10, k11, k12⟩ := hf
  obtain ⟨w1, h1, w2, h2, w3, w4, w5, w6, w7, w8, w9, c5, c6⟩ := N.wraps
  simp only at k1 k2 k3 k4 k5 k6 k7 k8 k9 k10 k11 k12
  subst k2; subst k4
  unfold MergeTo at *
  rw [evL_code ext_slices_symMergeCmpFunc_api_SimEvent code_slices_symMergeCmpFunc_api_SimEvent]
  have g4 : ¬ (m : Int) > (mid : Int) := fun h => g1 (Int.ofNat_lt.1 h)
  have e1 : (start : Int) < (m : Int) := Int.ofNat_lt.2 d1
  have e2 : ¬ (m : Int) < (fin : Int) := fun h => d2 (Int.ofNat_lt.1 h)
  have e3 : (a : Int) < (start : Int) := Int.ofNat_lt.2 d3
  have e5 : (mid : Int) < (fin : Int) := Int.ofNat_lt.2 (c5.2 d1)
  have e6 : ¬ (start : Int) < (mid : Int) := fun h => d2 (c6.1 (Int.ofNat_lt.1 h))
  have e4 : ¬ (fin : Int) < (b : Int) := fun h => d4 (Int.ofNat_lt.1 h)
  have r1 := n1 (fun h => d2 h.2); subst r1
  have r2 := n2 (fun h => d2 (c6.1 h.2)); subst r2
  have r3 := n3 (fun h => d4 h.2); subst r3
  simp only [c_slices_symMergeCmpFunc_api_SimEvent, w1, w2, w3, w4, w5, w6, w7, w8, w9, h1, h2, g4, k1, k3, k6, k7, k8, k10, k11, k12, e1, e2, e3, e5, e6, e4, evts_lo, Ev.runFunc, Ev.exec, Ev.evOpers, Ev.evOper, Ev.item_op, Ev.evOp, Ev.Opnd.ev, Ev.Env.get, Ev.Env.set, Ev.look, Ev.argVars, Ev.bin_add, Ev.bin_sub, Ev.bin_eql, Ev.bin_lss, Ev.bin_gtr, Ev.resVals, Ev.resOf, Ev.kill, Ev.leave, Ev.settle, Ev.keep, Ev.varsLo, Ev.marksLo, Ev.storeLo, Ev.SObj.lo, Ev.lo_v, Ev.lo_tup, Ev.lo_sl, Ev.lo_fn, Ev.los_nil, ↓Ev.obind, ↓Ev.itL_itB, ↓reduceIte, List.length_cons, List.length_nil, List.take_succ_cons, List.take_nil, Nat.reduceAdd, Nat.reduceEqDiff, reduceCtorEq, decide_true, decide_false, Bool.and_self, Bool.false_eq_true, and_self, Nat.zero_add, Nat.lt_add_one, eq_self]
theorem merge_way_01001 (x1 x2 y1 y2 a m b mid nn lo hi p start fin : Nat) (D D2 D3 D4 : List Evt) (N : Nums n x1 x2 y1 y2 a m b mid nn lo hi p start fin) (g1 : ¬ mid < m)
    (d1 : start < m) (d2 : ¬ m < fin) (d3 : ¬ a < start) (d4 : fin < b)
    (hf : Finds g cl n a m b mid nn a m p start D) (hS : Steps g cl n a m b mid start fin D D2 D3 D4) : MergeTo g cl n a m b D D4 := by
  obtain ⟨s1, n1, s2, n2, s3, n3⟩ := hS
  obtain ⟨⟨y, e, σ⟩, k1, k2, k3, k4, k5, k6, k7, k8, k9, k10, k11, k12⟩ := hf
  obtain ⟨w1, h1, w2, h2, w3, w4, w5, w6, w7, w8, w9, c5, c6⟩ := N.wraps
  simp only at k1 k2 k3 k4 k5 k6 k7 k8 k9 k10 k11 k12
  subst k2; subst k4
  unfold MergeTo at *
  rw [evL_code ext_slices_symMergeCmpFunc_api_SimEvent code_slices_symMergeCmpFunc_api_SimEvent]
  have g4 : ¬ (m : Int) > (mid : Int) := fun h => g1 (Int.ofNat_lt.1 h)
  have e1 : (start : Int) < (m : Int) := Int.ofNat_lt.2 d1
  have e2 : ¬ (m : Int) < (fin : Int) := fun h => d2 (Int.ofNat_lt.1 h)
  have e3 : ¬ (a : Int) < (start : Int) := fun h => d3 (Int.ofNat_lt.1 h)
  have e5 : (mid : Int) < (fin : Int) := Int.ofNat_lt.2 (c5.2 d1)
  have e6 : ¬ (start : Int) < (mid : Int) := fun h => d2 (c6.1 (Int.ofNat_lt.1 h))
  have e4 : (fin : Int) < (b : Int) := Int.ofNat_lt.2 d4
  have r1 := n1 (fun h => d2 h.2); subst r1
  have r2 := n2 (fun h => d3 h.1); subst r2
  have r3 := s3 (c5.2 d1) d4
  simp only [c_slices_symMergeCmpFunc_api_SimEvent, w1, w2, w3, w4, w5, w6, w7, w8, w9, h1, h2, g4, k1, k3, k5, k6, k7, k8, k9, k10, k11, k12, e1, e2, e3, e5, r3, e4, evts_lo, Ev.runFunc, Ev.exec, Ev.evOpers, Ev.evOper, Ev.item_op, Ev.item_I, Ev.evOp, Ev.evs, Ev.Opnd.ev, Ev.Env.get, Ev.Env.set, Ev.Env.unset, Ev.look, Ev.argVars, Ev.bin_add, Ev.bin_sub, Ev.bin_eql, Ev.bin_lss, Ev.bin_gtr, Ev.resVals, Ev.resOf, Ev.kill, Ev.leave, Ev.settle, Ev.keep, Ev.varsLo, Ev.marksLo, Ev.storeLo, Ev.SObj.lo, Ev.lo_v, Ev.lo_tup, Ev.lo_sl, Ev.lo_fn, Ev.los_nil, ↓Ev.obind, ↓Ev.itL_itB, ↓reduceIte, List.length_cons, List.length_nil, List.take_succ_cons, List.take_nil, Nat.reduceAdd, Nat.reduceEqDiff, reduceCtorEq, decide_true, decide_false, Bool.and_self, Bool.false_eq_true, and_self, Nat.zero_add, Nat.lt_add_one, eq_self]
theorem merge_way_01000 (x1 x2 y1 y2 a m b mid nn lo hi p start fin : Nat) (D D2 D3 D4 : List Evt) (N : Nums n x1 x2 y1 y2 a m b mid nn lo hi p start fin) (g1 : ¬ mid < m)
    (d1 : start < m) (d2 : ¬ m < fin) (d3 : ¬ a < start) (d4 : ¬ fin < b)
    (hf : Finds g cl n a m b mid nn a m p start D) (hS : Steps g cl n a m b mid start fin D D2 D3 D4) : MergeTo g cl n a m b D D4 := by
  obtain ⟨s1, n1, s2, n2, s3, n3⟩ := hS
  obtain ⟨⟨y, e, σ⟩, k1, k2, k3, k4, k5, k6, k7, k8, k9, k10, k11, k12⟩ := hf
  obtain ⟨w1, h1, w2, h2, w3, w4, w5, w6, w7, w8, w9, c5, c6⟩ := N.wraps
  simp only at k1 k2 k3 k4 k5 k6 k7 k8 k9 k10 k11 k12
  subst k2; subst k4
  unfold MergeTo at *
  rw [evL_code ext_slices_symMergeCmpFunc_api_SimEvent code_slices_symMergeCmpFunc_api_SimEvent]
  have g4 : ¬ (m : Int) > (mid : Int) := fun h => g1 (Int.ofNat_lt.1 h)
  have e1 : (start : Int) < (m : Int) := Int.ofNat_lt.2 d1
  have e2 : ¬ (m : Int) < (fin : Int) := fun h => d2 (Int.ofNat_lt.1 h)
  have e3 : ¬ (a : Int) < (start : Int) := fun h => d3 (Int.ofNat_lt.1 h)
  have e5 : (mid : Int) < (fin : Int) := Int.ofNat_lt.2 (c5.2 d1)
  have e6 : ¬ (start : Int) < (mid : Int) := fun h => d2 (c6.1 (Int.ofNat_lt.1 h))
  have e4 : ¬ (fin : Int) < (b : Int) := fun h => d4 (Int.ofNat_lt.1 h)
  have r1 := n1 (fun h => d2 h.2); subst r1
  have r2 := n2 (fun h => d3 h.1); subst r2
  have r3 := n3 (fun h => d4 h.2); subst r3
  simp only [c_slices_symMergeCmpFunc_api_SimEvent, w1, w2, w3, w4, w5, w6, w7, w8, w9, h1, h2, g4, k1, k3, k6, k7, k8, k10, k11, k12, e1, e2, e3, e5, e4, evts_lo, Ev.runFunc, Ev.exec, Ev.evOpers, Ev.evOper, Ev.item_op, Ev.evOp, Ev.Opnd.ev, Ev.Env.get, Ev.Env.set, Ev.Env.unset, Ev.look, Ev.argVars, Ev.bin_add, Ev.bin_sub, Ev.bin_eql, Ev.bin_lss, Ev.bin_gtr, Ev.resVals, Ev.resOf, Ev.kill, Ev.leave, Ev.settle, Ev.keep, Ev.varsLo, Ev.marksLo, Ev.storeLo, Ev.SObj.lo, Ev.lo_v, Ev.lo_tup, Ev.lo_sl, Ev.lo_fn, Ev.los_nil, ↓Ev.obind, ↓Ev.itL_itB, ↓reduceIte, List.length_cons, List.length_nil, List.take_succ_cons, List.take_nil, Nat.reduceAdd, Nat.reduceEqDiff, reduceCtorEq, decide_true, decide_false, Bool.and_self, Bool.false_eq_true, and_self, Nat.zero_add, Nat.lt_add_one, eq_self]
theorem merge_way_00111 (x1 x2 y1 y2 a m b mid nn lo hi p start fin : Nat) (D D2 D3 D4 : List Evt) (N : Nums n x1 x2 y1 y2 a m b mid nn lo hi p start fin) (g1 : ¬ mid < m)
    (d1 : ¬ start < m) (d2 : m < fin) (d3 : a < start) (d4 : fin < b)
    (hf : Finds g cl n a m b mid nn a m p start D) (hS : Steps g cl n a m b mid start fin D D2 D3 D4) : MergeTo g cl n a m b D D4 := by
  obtain ⟨s1, n1, s2, n2, s3, n3⟩ := hS
  obtain ⟨⟨y, e, σ⟩, k1, k2, k3, k4, k5, k6, k7, k8, k9, k10, k11, k12⟩ := hf
  obtain ⟨w1, h1, w2, h2, w3, w4, w5, w6, w7, w8, w9, c5, c6⟩ := N.wraps
  simp only at k1 k2 k3 k4 k5 k6 k7 k8 k9 k10 k11 k12
  subst k2; subst k4
  unfold MergeTo at *
  rw [evL_code ext_slices_symMergeCmpFunc_api_SimEvent code_slices_symMergeCmpFunc_api_SimEvent]
  have g4 : ¬ (m : Int) > (mid : Int) := fun h => g1 (Int.ofNat_lt.1 h)
  have e1 : ¬ (start : Int) < (m : Int) := fun h => d1 (Int.ofNat_lt.1 h)
  have e2 : (m : Int) < (fin : Int) := Int.ofNat_lt.2 d2
  have e3 : (a : Int) < (start : Int) := Int.ofNat_lt.2 d3
  have e5 : ¬ (mid : Int) < (fin : Int) := fun h => d1 (c5.1 (Int.ofNat_lt.1 h))
  have e6 : (start : Int) < (mid : Int) := Int.ofNat_lt.2 (c6.2 d2)
  have e4 : (fin : Int) < (b : Int) := Int.ofNat_lt.2 d4
  have r1 := n1 (fun h => d1 h.1); subst r1
  have r2 := s2 d3 (c6.2 d2)
  have r3 := n3 (fun h => d1 (c5.1 h.1)); subst r3
  simp only [c_slices_symMergeCmpFunc_api_SimEvent, w1, w2, w3, w4, w5, w6, w7, w8, w9, h1, h2, g4, k1, k3, k5, k6, k7, k9, k10, k11, k12, e1, e3, e5, e6, r2, evts_lo, Ev.runFunc, Ev.exec, Ev.evOpers, Ev.evOper, Ev.item_op, Ev.item_I, Ev.evOp, Ev.evs, Ev.Opnd.ev, Ev.Env.get, Ev.Env.set, Ev.Env.unset, Ev.look, Ev.argVars, Ev.bin_add, Ev.bin_sub, Ev.bin_eql, Ev.bin_lss, Ev.bin_gtr, Ev.resVals, Ev.resOf, Ev.kill, Ev.leave, Ev.settle, Ev.keep, Ev.varsLo, Ev.marksLo, Ev.storeLo, Ev.SObj.lo, Ev.lo_v, Ev.lo_tup, Ev.lo_sl, Ev.lo_fn, Ev.los_nil, ↓Ev.obind, ↓Ev.itL_itB, ↓reduceIte, List.length_cons, List.length_nil, List.take_succ_cons, List.take_nil, Nat.reduceAdd, Nat.reduceEqDiff, reduceCtorEq, decide_true, decide_false, Bool.and_self, Bool.false_eq_true, and_self, Nat.zero_add, Nat.lt_add_one, eq_self]
theorem merge_way_00110 (x1 x2 y1 y2 a m b mid nn lo hi p start fin : Nat) (D D2 D3 D4 : List Evt) (N : Nums n x1 x2 y1 y2 a m b mid nn lo hi p start fin) (g1 : ¬ mid < m)
    (d1 : ¬ start < m) (d2 : m < fin) (d3 : a < start) (d4 : ¬ fin < b)
    (hf : Finds g cl n a m b mid nn a m p start D) (hS : Steps g cl n a m b mid start fin D D2 D3 D4) : MergeTo g cl n a m b D D4 := by
  obtain ⟨s1, n1, s2, n2, s3, n3⟩ := hS
  obtain ⟨⟨y, e, σ⟩, k1, k2, k3, k4, k5, k6, k7, k8, k9, k10, k11, k12⟩ := hf
  obtain ⟨w1, h1, w2, h2, w3, w4, w5, w6, w7, w8, w9, c5, c6⟩ := N.wraps
  simp only at k1 k2 k3 k4 k5 k6 k7 k8 k9 k10 k11 k12
  subst k2; subst k4
  unfold MergeTo at *
  rw [evL_code ext_slices_symMergeCmpFunc_api_SimEvent code_slices_symMergeCmpFunc_api_SimEvent]
  have g4 : ¬ (m : Int) > (mid : Int) := fun h => g1 (Int.ofNat_lt.1 h)
  have e1 : ¬ (start : Int) < (m : Int) := fun h => d1 (Int.ofNat_lt.1 h)
  have e2 : (m : Int) < (fin : Int) := Int.ofNat_lt.2 d2
  have e3 : (a : Int) < (start : Int) := Int.ofNat_lt.2 d3
  have e5 : ¬ (mid : Int) < (fin : Int) := fun h => d1 (c5.1 (Int.ofNat_lt.1 h))
  have e6 : (start : Int) < (mid : Int) := Int.ofNat_lt.2 (c6.2 d2)
  have e4 : ¬ (fin : Int) < (b : Int) := fun h => d4 (Int.ofNat_lt.1 h)
  have r1 := n1 (fun h => d1 h.1); subst r1
  have r2 := s2 d3 (c6.2 d2)
  have r3 := n3 (fun h => d1 (c5.1 h.1)); subst r3
  simp only [c_slices_symMergeCmpFunc_api_SimEvent, w1, w2, w3, w4, w5, w6, w7, w8, w9, h1, h2, g4, k1, k3, k5, k6, k7, k9, k10, k11, k12, e1, e3, e5, e6, r2, evts_lo, Ev.runFunc, Ev.exec, Ev.evOpers, Ev.evOper, Ev.item_op, Ev.item_I, Ev.evOp, Ev.evs, Ev.Opnd.ev, Ev.Env.get, Ev.Env.set, Ev.Env.unset, Ev.look, Ev.argVars, Ev.bin_add, Ev.bin_sub, Ev.bin_eql, Ev.bin_lss, Ev.bin_gtr, Ev.resVals, Ev.resOf, Ev.kill, Ev.leave, Ev.settle, Ev.keep, Ev.varsLo, Ev.marksLo, Ev.storeLo, Ev.SObj.lo, Ev.lo_v, Ev.lo_tup, Ev.lo_sl, Ev.lo_fn, Ev.los_nil, ↓Ev.obind, ↓Ev.itL_itB, ↓reduceIte, List.length_cons, List.length_nil, List.take_succ_cons, List.take_nil, Nat.reduceAdd, Nat.reduceEqDiff, reduceCtorEq, decide_true, decide_false, Bool.and_self, Bool.false_eq_true, and_self, Nat.zero_add, Nat.lt_add_one, eq_self]
theorem merge_way_00101 (x1 x2 y1 y2 a m b mid nn lo hi p start fin : Nat) (D D2 D3 D4 : List Evt) (N : Nums n x1 x2 y1 y2 a m b mid nn lo hi p start fin) (g1 : ¬ mid < m)
    (d1 : ¬ start < m) (d2 : m < fin) (d3 : ¬ a < start) (d4 : fin < b)
    (hf : Finds g cl n a m b mid nn a m p start D) (hS : Steps g cl n a m b mid start fin D D2 D3 D4) : MergeTo g cl n a m b D D4 := by
  obtain ⟨s1, n1, s2, n2, s3, n3⟩ := hS
  obtain ⟨⟨y, e, σ⟩, k1, k2, k3, k4, k5, k6, k7, k8, k9, k10, k11, k12⟩ := hf
  obtain ⟨w1, h1, w2, h2, w3, w4, w5, w6, w7, w8, w9, c5, c6⟩ := N.wraps
  simp only at k1 k2 k3 k4 k5 k6 k7 k8 k9 k10 k11 k12
  subst k2; subst k4
  unfold MergeTo at *
  rw [evL_code ext_slices_symMergeCmpFunc_api_SimEvent code_slices_symMergeCmpFunc_api_SimEvent]
  have g4 : ¬ (m : Int) > (mid : Int) := fun h => g1 (Int.ofNat_lt.1 h)
  have e1 : ¬ (start : Int) < (m : Int) := fun h => d1 (Int.ofNat_lt.1 h)
  have e2 : (m : Int) < (fin : Int) := Int.ofNat_lt.2 d2
  have e3 : ¬ (a : Int) < (start : Int) := fun h => d3 (Int.ofNat_lt.1 h)
  have e5 : ¬ (mid : Int) < (fin : Int) := fun h => d1 (c5.1 (Int.ofNat_lt.1 h))
  have e6 : (start : Int) < (mid : Int) := Int.ofNat_lt.2 (c6.2 d2)
  have e4 : (fin : Int) < (b : Int) := Int.ofNat_lt.2 d4
  have r1 := n1 (fun h => d1 h.1); subst r1
  have r2 := n2 (fun h => d3 h.1); subst r2
  have r3 := n3 (fun h => d1 (c5.1 h.1)); subst r3
  simp only [c_slices_symMergeCmpFunc_api_SimEvent, w1, w2, w3, w4, w5, w6, w7, w8, w9, h1, h2, g4, k1, k3, k6, k7, k10, k11, k12, e1, e3, e5, evts_lo, Ev.runFunc, Ev.exec, Ev.evOpers, Ev.evOper, Ev.item_op, Ev.evOp, Ev.Opnd.ev, Ev.Env.get, Ev.Env.set, Ev.Env.unset, Ev.look, Ev.argVars, Ev.bin_add, Ev.bin_sub, Ev.bin_eql, Ev.bin_lss, Ev.bin_gtr, Ev.resVals, Ev.resOf, Ev.kill, Ev.leave, Ev.settle, Ev.keep, Ev.varsLo, Ev.marksLo, Ev.storeLo, Ev.SObj.lo, Ev.lo_v, Ev.lo_tup, Ev.lo_sl, Ev.lo_fn, Ev.los_nil, ↓Ev.obind, ↓Ev.itL_itB, ↓reduceIte, List.length_cons, List.length_nil, List.take_succ_cons, List.take_nil, Nat.reduceAdd, Nat.reduceEqDiff, reduceCtorEq, decide_true, decide_false, Bool.and_self, Bool.false_eq_true, and_self, Nat.zero_add, Nat.lt_add_one, eq_self]
theorem merge_way_00100 (x1 x2 y1 y2 a m b mid nn lo hi p start fin : Nat) (D D2 D3 D4 : List Evt) (N : Nums n x1 x2 y1 y2 a m b mid nn lo hi p start fin) (g1 : ¬ mid < m)
    (d1 : ¬ start < m) (d2 : m < fin) (d3 : ¬ a < start) (d4 : ¬ fin < b)
    (hf : Finds g cl n a m b mid nn a m p start D) (hS : Steps g cl n a m b mid start fin D D2 D3 D4) : MergeTo g cl n a m b D D4 := by
  obtain ⟨s1, n1, s2, n2, s3, n3⟩ := hS
  obtain ⟨⟨y, e, σ⟩, k1, k2, k3, k4, k5, k6, k7, k8, k9, k10, k11, k12⟩ := hf
  obtain ⟨w1, h1, w2, h2, w3, w4, w5, w6, w7, w8, w9, c5, c6⟩ := N.wraps
  simp only at k1 k2 k3 k4 k5 k6 k7 k8 k9 k10 k11 k12
  subst k2; subst k4
  unfold MergeTo at *
  rw [evL_code ext_slices_symMergeCmpFunc_api_SimEvent code_slices_symMergeCmpFunc_api_SimEvent]
  have g4 : ¬ (m : Int) > (mid : Int) := fun h => g1 (Int.ofNat_lt.1 h)
  have e1 : ¬ (start : Int) < (m : Int) := fun h => d1 (Int.ofNat_lt.1 h)
  have e2 : (m : Int) < (fin : Int) := Int.ofNat_lt.2 d2
  have e3 : ¬ (a : Int) < (start : Int) := fun h => d3 (Int.ofNat_lt.1 h)
  have e5 : ¬ (mid : Int) < (fin : Int) := fun h => d1 (c5.1 (Int.ofNat_lt.1 h))
  have e6 : (start : Int) < (mid : Int) := Int.ofNat_lt.2 (c6.2 d2)
  have e4 : ¬ (fin : Int) < (b : Int) := fun h => d4 (Int.ofNat_lt.1 h)
  have r1 := n1 (fun h => d1 h.1); subst r1
  have r2 := n2 (fun h => d3 h.1); subst r2
  have r3 := n3 (fun h => d1 (c5.1 h.1)); subst r3
  simp only [c_slices_symMergeCmpFunc_api_SimEvent, w1, w2, w3, w4, w5, w6, w7, w8, w9, h1, h2, g4, k1, k3, k6, k7, k10, k11, k12, e1, e3, e5, evts_lo, Ev.runFunc, Ev.exec, Ev.evOpers, Ev.evOper, Ev.item_op, Ev.evOp, Ev.Opnd.ev, Ev.Env.get, Ev.Env.set, Ev.Env.unset, Ev.look, Ev.argVars, Ev.bin_add, Ev.bin_sub, Ev.bin_eql, Ev.bin_lss, Ev.bin_gtr, Ev.resVals, Ev.resOf, Ev.kill, Ev.leave, Ev.settle, Ev.keep, Ev.varsLo, Ev.marksLo, Ev.storeLo, Ev.SObj.lo, Ev.lo_v, Ev.lo_tup, Ev.lo_sl, Ev.lo_fn, Ev.los_nil, ↓Ev.obind, ↓Ev.itL_itB, ↓reduceIte, List.length_cons, List.length_nil, List.take_succ_cons, List.take_nil, Nat.reduceAdd, Nat.reduceEqDiff, reduceCtorEq, decide_true, decide_false, Bool.and_self, Bool.false_eq_true, and_self, Nat.zero_add, Nat.lt_add_one, eq_self]
theorem merge_way_00011 (x1 x2 y1 y2 a m b mid nn lo hi p start fin : Nat) (D D2 D3 D4 : List Evt) (N : Nums n x1 x2 y1 y2 a m b mid nn lo hi p start fin) (g1 : ¬ mid < m)
    (d1 : ¬ start < m) (d2 : ¬ m < fin) (d3 : a < start) (d4 : fin < b)
    (hf : Finds g cl n a m b mid nn a m p start D) (hS : Steps g cl n a m b mid start fin D D2 D3 D4) : MergeTo g cl n a m b D D4 := by
  obtain ⟨s1, n1, s2, n2, s3, n3⟩ := hS
  obtain ⟨⟨y, e, σ⟩, k1, k2, k3, k4, k5, k6, k7, k8, k9, k10, k11, k12⟩ := hf
  obtain ⟨w1, h1, w2, h2, w3, w4, w5, w6, w7, w8, w9, c5, c6⟩ := N.wraps
  simp only at k1 k2 k3 k4 k5 k6 k7 k8 k9 k10 k11 k12
  subst k2; subst k4
  unfold MergeTo at *
  rw [evL_code ext_slices_symMergeCmpFunc_api_SimEvent code_slices_symMergeCmpFunc_api_SimEvent]
  have g4 : ¬ (m : Int) > (mid : Int) := fun h => g1 (Int.ofNat_lt.1 h)
  have e1 : ¬ (start : Int) < (m : Int) := fun h => d1 (Int.ofNat_lt.1 h)
  have e2 : ¬ (m : Int) < (fin : Int) := fun h => d2 (Int.ofNat_lt.1 h)
  have e3 : (a : Int) < (start : Int) := Int.ofNat_lt.2 d3
  have e5 : ¬ (mid : Int) < (fin : Int) := fun h => d1 (c5.1 (Int.ofNat_lt.1 h))
  have e6 : ¬ (start : Int) < (mid : Int) := fun h => d2 (c6.1 (Int.ofNat_lt.1 h))
  have e4 : (fin : Int) < (b : Int) := Int.ofNat_lt.2 d4
  have r1 := n1 (fun h => d1 h.1); subst r1
  have r2 := n2 (fun h => d2 (c6.1 h.2)); subst r2
  have r3 := n3 (fun h => d1 (c5.1 h.1)); subst r3
  simp only [c_slices_symMergeCmpFunc_api_SimEvent, w1, w2, w3, w4, w5, w6, w7, w8, w9, h1, h2, g4, k1, k3, k6, k7, k10, k11, k12, e1, e3, e5, e6, evts_lo, Ev.runFunc, Ev.exec, Ev.evOpers, Ev.evOper, Ev.item_op, Ev.evOp, Ev.Opnd.ev, Ev.Env.get, Ev.Env.set, Ev.Env.unset, Ev.look, Ev.argVars, Ev.bin_add, Ev.bin_sub, Ev.bin_eql, Ev.bin_lss, Ev.bin_gtr, Ev.resVals, Ev.resOf, Ev.kill, Ev.leave, Ev.settle, Ev.keep, Ev.varsLo, Ev.marksLo, Ev.storeLo, Ev.SObj.lo, Ev.lo_v, Ev.lo_tup, Ev.lo_sl, Ev.lo_fn, Ev.los_nil, ↓Ev.obind, ↓Ev.itL_itB, ↓reduceIte, List.length_cons, List.length_nil, List.take_succ_cons, List.take_nil, Nat.reduceAdd, Nat.reduceEqDiff, reduceCtorEq, decide_true, decide_false, Bool.and_self, Bool.false_eq_true, and_self, Nat.zero_add, Nat.lt_add_one, eq_self]
theorem merge_way_00010 (x1 x2 y1 y2 a m b mid nn lo hi p start fin : Nat) (D D2 D3 D4 : List Evt) (N : Nums n x1 x2 y1 y2 a m b mid nn lo hi p start fin) (g1 : ¬ mid < m)
    (d1 : ¬ start < m) (d2 : ¬ m < fin) (d3 : a < start) (d4 : ¬ fin < b)
    (hf : Finds g cl n a m b mid nn a m p start D) (hS : Steps g cl n a m b mid start fin D D2 D3 D4) : MergeTo g cl n a m b D D4 := by
  obtain ⟨s1, n1, s2, n2, s3, n3⟩ := hS
  obtain ⟨⟨y, e, σ⟩, k1, k2, k3, k4, k5, k6, k7, k8, k9, k10, k11, k12⟩ := hf
  obtain ⟨w1, h1, w2, h2, w3, w4, w5, w6, w7, w8, w9, c5, c6⟩ := N.wraps
  simp only at k1 k2 k3 k4 k5 k6 k7 k8 k9 k10 k11 k12
  subst k2; subst k4
  unfold MergeTo at *
  rw [evL_code ext_slices_symMergeCmpFunc_api_SimEvent code_slices_symMergeCmpFunc_api_SimEvent]
  have g4 : ¬ (m : Int) > (mid : Int) := fun h => g1 (Int.ofNat_lt.1 h)
  have e1 : ¬ (start : Int) < (m : Int) := fun h => d1 (Int.ofNat_lt.1 h)
  have e2 : ¬ (m : Int) < (fin : Int) := fun h => d2 (Int.ofNat_lt.1 h)
  have e3 : (a : Int) < (start : Int) := Int.ofNat_lt.2 d3
  have e5 : ¬ (mid : Int) < (fin : Int) := fun h => d1 (c5.1 (Int.ofNat_lt.1 h))
  have e6 : ¬ (start : Int) < (mid : Int) := fun h => d2 (c6.1 (Int.ofNat_lt.1 h))
  have e4 : ¬ (fin : Int) < (b : Int) := fun h => d4 (Int.ofNat_lt.1 h)
  have r1 := n1 (fun h => d1 h.1); subst r1
  have r2 := n2 (fun h => d2 (c6.1 h.2)); subst r2
  have r3 := n3 (fun h => d1 (c5.1 h.1)); subst r3
  simp only [c_slices_symMergeCmpFunc_api_SimEvent, w1, w2, w3, w4, w5, w6, w7, w8, w9, h1, h2, g4, k1, k3, k6, k7, k10, k11, k12, e1, e3, e5, e6, evts_lo, Ev.runFunc, Ev.exec, Ev.evOpers, Ev.evOper, Ev.item_op, Ev.evOp, Ev.Opnd.ev, Ev.Env.get, Ev.Env.set, Ev.Env.unset, Ev.look, Ev.argVars, Ev.bin_add, Ev.bin_sub, Ev.bin_eql, Ev.bin_lss, Ev.bin_gtr, Ev.resVals, Ev.resOf, Ev.kill, Ev.leave, Ev.settle, Ev.keep, Ev.varsLo, Ev.marksLo, Ev.storeLo, Ev.SObj.lo, Ev.lo_v, Ev.lo_tup, Ev.lo_sl, Ev.lo_fn, Ev.los_nil, ↓Ev.obind, ↓Ev.itL_itB, ↓reduceIte, List.length_cons, List.length_nil, List.take_succ_cons, List.take_nil, Nat.reduceAdd, Nat.reduceEqDiff, reduceCtorEq, decide_true, decide_false, Bool.and_self, Bool.false_eq_true, and_self, Nat.zero_add, Nat.lt_add_one, eq_self]
theorem merge_way_00001 (x1 x2 y1 y2 a m b mid nn lo hi p start fin : Nat) (D D2 D3 D4 : List Evt) (N : Nums n x1 x2 y1 y2 a m b mid nn lo hi p start fin) (g1 : ¬ mid < m)
    (d1 : ¬ start < m) (d2 : ¬ m < fin) (d3 : ¬ a < start) (d4 : fin < b)
    (hf : Finds g cl n a m b mid nn a m p start D) (hS : Steps g cl n a m b mid start fin D D2 D3 D4) : MergeTo g cl n a m b D D4 := by
  obtain ⟨s1, n1, s2, n2, s3, n3⟩ := hS
  obtain ⟨⟨y, e, σ⟩, k1, k2, k3, k4, k5, k6, k7, k8, k9, k10, k11, k12⟩ := hf
  obtain ⟨w1, h1, w2, h2, w3, w4, w5, w6, w7, w8, w9, c5, c6⟩ := N.wraps
  simp only at k1 k2 k3 k4 k5 k6 k7 k8 k9 k10 k11 k12
  subst k2; subst k4
  unfold MergeTo at *
  rw [evL_code ext_slices_symMergeCmpFunc_api_SimEvent code_slices_symMergeCmpFunc_api_SimEvent]
  have g4 : ¬ (m : Int) > (mid : Int) := fun h => g1 (Int.ofNat_lt.1 h)
  have e1 : ¬ (start : Int) < (m : Int) := fun h => d1 (Int.ofNat_lt.1 h)
  have e2 : ¬ (m : Int) < (fin : Int) := fun h => d2 (Int.ofNat_lt.1 h)
  have e3 : ¬ (a : Int) < (start : Int) := fun h => d3 (Int.ofNat_lt.1 h)
  have e5 : ¬ (mid : Int) < (fin : Int) := fun h => d1 (c5.1 (Int.ofNat_lt.1 h))
  have e6 : ¬ (start : Int) < (mid : Int) := fun h => d2 (c6.1 (Int.ofNat_lt.1 h))
  have e4 : (fin : Int) < (b : Int) := Int.ofNat_lt.2 d4
  have r1 := n1 (fun h => d1 h.1); subst r1
  have r2 := n2 (fun h => d3 h.1); subst r2
  have r3 := n3 (fun h => d1 (c5.1 h.1)); subst r3
  simp only [c_slices_symMergeCmpFunc_api_SimEvent, w1, w2, w3, w4, w5, w6, w7, w8, w9, h1, h2, g4, k1, k3, k6, k7, k10, k11, k12, e1, e3, e5, evts_lo, Ev.runFunc, Ev.exec, Ev.evOpers, Ev.evOper, Ev.item_op, Ev.evOp, Ev.Opnd.ev, Ev.Env.get, Ev.Env.set, Ev.Env.unset, Ev.look, Ev.argVars, Ev.bin_add, Ev.bin_sub, Ev.bin_eql, Ev.bin_lss, Ev.bin_gtr, Ev.resVals, Ev.resOf, Ev.kill, Ev.leave, Ev.settle, Ev.keep, Ev.varsLo, Ev.marksLo, Ev.storeLo, Ev.SObj.lo, Ev.lo_v, Ev.lo_tup, Ev.lo_sl, Ev.lo_fn, Ev.los_nil, ↓Ev.obind, ↓Ev.itL_itB, ↓reduceIte, List.length_cons, List.length_nil, List.take_succ_cons, List.take_nil, Nat.reduceAdd, Nat.reduceEqDiff, reduceCtorEq, decide_true, decide_false, Bool.and_self, Bool.false_eq_true, and_self, Nat.zero_add, Nat.lt_add_one, eq_self]
theorem merge_way_00000 (x1 x2 y1 y2 a m b mid nn lo hi p start fin : Nat) (D D2 D3 D4 : List Evt) (N : Nums n x1 x2 y1 y2 a m b mid nn lo hi p start fin) (g1 : ¬ mid < m)
    (d1 : ¬ start < m) (d2 : ¬ m < fin) (d3 : ¬ a < start) (d4 : ¬ fin < b)
    (hf : Finds g cl n a m b mid nn a m p start D) (hS : Steps g cl n a m b mid start fin D D2 D3 D4) : MergeTo g cl n a m b D D4 := by
  obtain ⟨s1, n1, s2, n2, s3, n3⟩ := hS
  obtain ⟨⟨y, e, σ⟩, k1, k2, k3, k4, k5, k6, k7, k8, k9, k10, k11, k12⟩ := hf
  obtain ⟨w1, h1, w2, h2, w3, w4, w5, w6, w7, w8, w9, c5, c6⟩ := N.wraps
  simp only at k1 k2 k3 k4 k5 k6 k7 k8 k9 k10 k11 k12
  subst k2; subst k4
  unfold MergeTo at *
  rw [evL_code ext_slices_symMergeCmpFunc_api_SimEvent code_slices_symMergeCmpFunc_api_SimEvent]
  have g4 : ¬ (m : Int) > (mid : Int) := fun h => g1 (Int.ofNat_lt.1 h)
  have e1 : ¬ (start : Int) < (m : Int) := fun h => d1 (Int.ofNat_lt.1 h)
  have e2 : ¬ (m : Int) < (fin : Int) := fun h => d2 (Int.ofNat_lt.1 h)
  have e3 : ¬ (a : Int) < (start : Int) := fun h => d3 (Int.ofNat_lt.1 h)
  have e5 : ¬ (mid : Int) < (fin : Int) := fun h => d1 (c5.1 (Int.ofNat_lt.1 h))
  have e6 : ¬ (start : Int) < (mid : Int) := fun h => d2 (c6.1 (Int.ofNat_lt.1 h))
  have e4 : ¬ (fin : Int) < (b : Int) := fun h => d4 (Int.ofNat_lt.1 h)
  have r1 := n1 (fun h => d1 h.1); subst r1
  have r2 := n2 (fun h => d3 h.1); subst r2
  have r3 := n3 (fun h => d1 (c5.1 h.1)); subst r3
  simp only [c_slices_symMergeCmpFunc_api_SimEvent, w1, w2, w3, w4, w5, w6, w7, w8, w9, h1, h2, g4, k1, k3, k6, k7, k10, k11, k12, e1, e3, e5, evts_lo, Ev.runFunc, Ev.exec, Ev.evOpers, Ev.evOper, Ev.item_op, Ev.evOp, Ev.Opnd.ev, Ev.Env.get, Ev.Env.set, Ev.Env.unset, Ev.look, Ev.argVars, Ev.bin_add, Ev.bin_sub, Ev.bin_eql, Ev.bin_lss, Ev.bin_gtr, Ev.resVals, Ev.resOf, Ev.kill, Ev.leave, Ev.settle, Ev.keep, Ev.varsLo, Ev.marksLo, Ev.storeLo, Ev.SObj.lo, Ev.lo_v, Ev.lo_tup, Ev.lo_sl, Ev.lo_fn, Ev.los_nil, ↓Ev.obind, ↓Ev.itL_itB, ↓reduceIte, List.length_cons, List.length_nil, List.take_succ_cons, List.take_nil, Nat.reduceAdd, Nat.reduceEqDiff, reduceCtorEq, decide_true, decide_false, Bool.and_self, Bool.false_eq_true, and_self, Nat.zero_add, Nat.lt_add_one, eq_self]
theorem merge_way (x1 x2 y1 y2 a m b mid nn lo hi p start fin : Nat) (D D2 D3 D4 : List Evt) (N : Nums n x1 x2 y1 y2 a m b mid nn lo hi p start fin) (hlo : mid < m ∧ nn = b + lo ∧ hi = mid ∨ ¬ mid < m ∧ lo = a ∧ hi = m)
    (hfind : ∃ y, itB (exec (evL T) itL none c_slices_symMergeCmpFunc_api_SimEvent_L5) (Ev.settle [0, 1, 2, 3, 4, 18, 19, 20, 21, 22] true 1) ⟨[(0, .sl 0 g 0 n cl), (1, (.v (.int .i64 (a)))), (2, (.v (.int .i64 (m)))), (3, (.v (.int .i64 (b)))), (4, (.fn (.func n_evkey_CompareEvents) [] [])), (18, (.v (.int .i64 (mid)))), (19, (.v (.int .i64 (nn)))), (20, (.v (.int .i64 (lo)))), (21, (.v (.int .i64 (hi)))), (22, (.v (.int .i64 (p))))], []⟩ [.row 6 ((D).map Evt.r) g] = some y ∧
      (y.1 = .exit 8 ∧ y.2.1.marks = [] ∧ y.2.2 = [.row 6 ((D).map Evt.r) g] ∧ Ev.look y.2.1.vars 0 = some (.sl 0 g 0 n cl) ∧ Ev.look y.2.1.vars 1 = some (.v (.int .i64 (a))) ∧ Ev.look y.2.1.vars 2 = some (.v (.int .i64 (m))) ∧ Ev.look y.2.1.vars 3 = some (.v (.int .i64 (b))) ∧ Ev.look y.2.1.vars 4 = some (.fn (.func n_evkey_CompareEvents) [] []) ∧ Ev.look y.2.1.vars 18 = some (.v (.int .i64 (mid))) ∧
        Ev.look y.2.1.vars 19 = some (.v (.int .i64 (nn))) ∧ Ev.look y.2.1.vars 20 = some (.v (.int .i64 (start)))))
    (s1 : start < m → m < fin → (evL T).call n_slices_rotateCmpFunc_api_SimEvent [.sl 0 g 0 n cl, (.v (.int .i64 (start))), (.v (.int .i64 (m))), (.v (.int .i64 (fin))), (.fn (.func n_evkey_CompareEvents) [] [])] [.row 6 ((D).map Evt.r) g] = some (.tup [], [.row 6 ((D2).map Evt.r) g])) (n1 : ¬ (start < m ∧ m < fin) → D2 = D)
    (s2 : a < start → start < mid → MergeTo g cl n a start mid D2 D3) (n2 : ¬ (a < start ∧ start < mid) → D3 = D2)
    (s3 : mid < fin → fin < b → MergeTo g cl n mid fin b D3 D4) (n3 : ¬ (mid < fin ∧ fin < b) → D4 = D3) : MergeTo g cl n a m b D D4 := by
  rcases hlo with ⟨g1, g2, rfl⟩ | ⟨g1, rfl, rfl⟩
  · rcases Classical.em (start < m) with d1 | d1 <;> rcases Classical.em (m < fin) with d2 | d2 <;> rcases Classical.em (a < start) with d3 | d3 <;> rcases Classical.em (fin < b) with d4 | d4
    · exact merge_way_11111 g cl n x1 x2 y1 y2 a m b hi nn lo hi p start fin D D2 D3 D4 N g1 g2 d1 d2 d3 d4 hfind ⟨s1, n1, s2, n2, s3, n3⟩
    · exact merge_way_11110 g cl n x1 x2 y1 y2 a m b hi nn lo hi p start fin D D2 D3 D4 N g1 g2 d1 d2 d3 d4 hfind ⟨s1, n1, s2, n2, s3, n3⟩
    · exact merge_way_11101 g cl n x1 x2 y1 y2 a m b hi nn lo hi p start fin D D2 D3 D4 N g1 g2 d1 d2 d3 d4 hfind ⟨s1, n1, s2, n2, s3, n3⟩
    · exact merge_way_11100 g cl n x1 x2 y1 y2 a m b hi nn lo hi p start fin D D2 D3 D4 N g1 g2 d1 d2 d3 d4 hfind ⟨s1, n1, s2, n2, s3, n3⟩
    · exact merge_way_11011 g cl n x1 x2 y1 y2 a m b hi nn lo hi p start fin D D2 D3 D4 N g1 g2 d1 d2 d3 d4 hfind ⟨s1, n1, s2, n2, s3, n3⟩
    · exact merge_way_11010 g cl n x1 x2 y1 y2 a m b hi nn lo hi p start fin D D2 D3 D4 N g1 g2 d1 d2 d3 d4 hfind ⟨s1, n1, s2, n2, s3, n3⟩
    · exact merge_way_11001 g cl n x1 x2 y1 y2 a m b hi nn lo hi p start fin D D2 D3 D4 N g1 g2 d1 d2 d3 d4 hfind ⟨s1, n1, s2, n2, s3, n3⟩
    · exact merge_way_11000 g cl n x1 x2 y1 y2 a m b hi nn lo hi p start fin D D2 D3 D4 N g1 g2 d1 d2 d3 d4 hfind ⟨s1, n1, s2, n2, s3, n3⟩
    · exact merge_way_10111 g cl n x1 x2 y1 y2 a m b hi nn lo hi p start fin D D2 D3 D4 N g1 g2 d1 d2 d3 d4 hfind ⟨s1, n1, s2, n2, s3, n3⟩
    · exact merge_way_10110 g cl n x1 x2 y1 y2 a m b hi nn lo hi p start fin D D2 D3 D4 N g1 g2 d1 d2 d3 d4 hfind ⟨s1, n1, s2, n2, s3, n3⟩
    · exact merge_way_10101 g cl n x1 x2 y1 y2 a m b hi nn lo hi p start fin D D2 D3 D4 N g1 g2 d1 d2 d3 d4 hfind ⟨s1, n1, s2, n2, s3, n3⟩
    · exact merge_way_10100 g cl n x1 x2 y1 y2 a m b hi nn lo hi p start fin D D2 D3 D4 N g1 g2 d1 d2 d3 d4 hfind ⟨s1, n1, s2, n2, s3, n3⟩
    · exact merge_way_10011 g cl n x1 x2 y1 y2 a m b hi nn lo hi p start fin D D2 D3 D4 N g1 g2 d1 d2 d3 d4 hfind ⟨s1, n1, s2, n2, s3, n3⟩
    · exact merge_way_10010 g cl n x1 x2 y1 y2 a m b hi nn lo hi p start fin D D2 D3 D4 N g1 g2 d1 d2 d3 d4 hfind ⟨s1, n1, s2, n2, s3, n3⟩
    · exact merge_way_10001 g cl n x1 x2 y1 y2 a m b hi nn lo hi p start fin D D2 D3 D4 N g1 g2 d1 d2 d3 d4 hfind ⟨s1, n1, s2, n2, s3, n3⟩
    · exact merge_way_10000 g cl n x1 x2 y1 y2 a m b hi nn lo hi p start fin D D2 D3 D4 N g1 g2 d1 d2 d3 d4 hfind ⟨s1, n1, s2, n2, s3, n3⟩
  · rcases Classical.em (start < hi) with d1 | d1 <;> rcases Classical.em (hi < fin) with d2 | d2 <;> rcases Classical.em (lo < start) with d3 | d3 <;> rcases Classical.em (fin < b) with d4 | d4
    · exact merge_way_01111 g cl n x1 x2 y1 y2 lo hi b mid nn lo hi p start fin D D2 D3 D4 N g1 d1 d2 d3 d4 hfind ⟨s1, n1, s2, n2, s3, n3⟩
    · exact merge_way_01110 g cl n x1 x2 y1 y2 lo hi b mid nn lo hi p start fin D D2 D3 D4 N g1 d1 d2 d3 d4 hfind ⟨s1, n1, s2, n2, s3, n3⟩
    · exact merge_way_01101 g cl n x1 x2 y1 y2 lo hi b mid nn lo hi p start fin D D2 D3 D4 N g1 d1 d2 d3 d4 hfind ⟨s1, n1, s2, n2, s3, n3⟩
    · exact merge_way_01100 g cl n x1 x2 y1 y2 lo hi b mid nn lo hi p start fin D D2 D3 D4 N g1 d1 d2 d3 d4 hfind ⟨s1, n1, s2, n2, s3, n3⟩
    · exact merge_way_01011 g cl n x1 x2 y1 y2 lo hi b mid nn lo hi p start fin D D2 D3 D4 N g1 d1 d2 d3 d4 hfind ⟨s1, n1, s2, n2, s3, n3⟩
    · exact merge_way_01010 g cl n x1 x2 y1 y2 lo hi b mid nn lo hi p start fin D D2 D3 D4 N g1 d1 d2 d3 d4 hfind ⟨s1, n1, s2, n2, s3, n3⟩
    · exact merge_way_01001 g cl n x1 x2 y1 y2 lo hi b mid nn lo hi p start fin D D2 D3 D4 N g1 d1 d2 d3 d4 hfind ⟨s1, n1, s2, n2, s3, n3⟩
    · exact merge_way_01000 g cl n x1 x2 y1 y2 lo hi b mid nn lo hi p start fin D D2 D3 D4 N g1 d1 d2 d3 d4 hfind ⟨s1, n1, s2, n2, s3, n3⟩
    · exact merge_way_00111 g cl n x1 x2 y1 y2 lo hi b mid nn lo hi p start fin D D2 D3 D4 N g1 d1 d2 d3 d4 hfind ⟨s1, n1, s2, n2, s3, n3⟩
    · exact merge_way_00110 g cl n x1 x2 y1 y2 lo hi b mid nn lo hi p start fin D D2 D3 D4 N g1 d1 d2 d3 d4 hfind ⟨s1, n1, s2, n2, s3, n3⟩
    · exact merge_way_00101 g cl n x1 x2 y1 y2 lo hi b mid nn lo hi p start fin D D2 D3 D4 N g1 d1 d2 d3 d4 hfind ⟨s1, n1, s2, n2, s3, n3⟩
    · exact merge_way_00100 g cl n x1 x2 y1 y2 lo hi b mid nn lo hi p start fin D D2 D3 D4 N g1 d1 d2 d3 d4 hfind ⟨s1, n1, s2, n2, s3, n3⟩
    · exact merge_way_00011 g cl n x1 x2 y1 y2 lo hi b mid nn lo hi p start fin D D2 D3 D4 N g1 d1 d2 d3 d4 hfind ⟨s1, n1, s2, n2, s3, n3⟩
    · exact merge_way_00010 g cl n x1 x2 y1 y2 lo hi b mid nn lo hi p start fin D D2 D3 D4 N g1 d1 d2 d3 d4 hfind ⟨s1, n1, s2, n2, s3, n3⟩
    · exact merge_way_00001 g cl n x1 x2 y1 y2 lo hi b mid nn lo hi p start fin D D2 D3 D4 N g1 d1 d2 d3 d4 hfind ⟨s1, n1, s2, n2, s3, n3⟩
    · exact merge_way_00000 g cl n x1 x2 y1 y2 lo hi b mid nn lo hi p start fin D D2 D3 D4 N g1 d1 d2 d3 d4 hfind ⟨s1, n1, s2, n2, s3, n3⟩
end
set_option maxRecDepth 10000
section
variable (g : Nat) (cl : Bool) (n : Nat)
theorem symMerge_ev (hb : n < 2 ^ 61) : ∀ (k : Nat) (P X Y Q : List Evt), X.length + Y.length ≤ k → 0 < X.length → 0 < Y.length → X.Pairwise leE → Y.Pairwise leE → n = (P ++ (X ++ (Y ++ Q))).length → KeysOk (P ++ (X ++ (Y ++ Q))) →
    ∀ a m b : Nat, a = P.length → m = a + X.length → b = m + Y.length → ∃ Z : List Evt, Z.Perm (X ++ Y) ∧ Z.Pairwise leE ∧ MergeTo g cl n a m b (P ++ (X ++ (Y ++ Q))) (P ++ (Z ++ Q)) := by
  intro k
  induction k with
  | zero => intro P X Y Q h1 h2 h3; omega
  | succ k ih =>
    intro P X Y Q hk hX0 hY0 hX hY hn hkeys a m b ha hm hbb
    by_cases hx : X.length = 1
    · obtain ⟨x, rfl⟩ := List.length_eq_one_iff.1 hx
      simp only [List.cons_append, List.nil_append, List.length_cons, List.length_nil] at hn hkeys hm ⊢
      exact merge_one1 g cl n P Y Q x hY hY0 hn hb hkeys a m b ha hm hbb
    by_cases hy : Y.length = 1
    · obtain ⟨y, rfl⟩ := List.length_eq_one_iff.1 hy
      simp only [List.cons_append, List.nil_append, List.length_cons, List.length_nil] at hn hkeys hbb ⊢
      exact merge_one2 g cl n P X Q y hX (by omega) hn hb hkeys a m b ha hm hbb
    have hlen : n = P.length + (X.length + (Y.length + Q.length)) := by rw [hn]; simp
    obtain ⟨mid, hmid⟩ : ∃ mid, mid = (a + b) / 2 := ⟨_, rfl⟩
    obtain ⟨nn, hnn⟩ : ∃ nn, nn = mid + m := ⟨_, rfl⟩
    obtain ⟨p, hp⟩ : ∃ p, nn = p + 1 := ⟨nn - 1, by omega⟩
    obtain ⟨lo, hi, hlo⟩ : ∃ lo hi, mid < m ∧ nn = b + lo ∧ hi = mid ∨ ¬ mid < m ∧ lo = a ∧ hi = m := by
      by_cases c : mid < m
      · exact ⟨nn - b, mid, .inl ⟨c, by omega, rfl⟩⟩
      · exact ⟨a, m, .inr ⟨c, rfl, rfl⟩⟩
    obtain ⟨y, f1, start, f2, f3, f4, f5, f6, f7, f8, f9, f10, f11, f12, f13, f14, f15, f16⟩ := merge_find3 g cl n (P ++ (X ++ (Y ++ Q))) hn hb hkeys a m b mid nn p lo hi hp (by omega) (fun c h1 h2 => by omega) (by omega) (by omega)
    obtain ⟨fin, hfin⟩ : ∃ fin, nn = start + fin := ⟨nn - start, by omega⟩
    obtain ⟨X1, X2, rfl, hX1⟩ : ∃ X1 X2, X = X1 ++ X2 ∧ X1.length = start - a := ⟨X.take (start - a), X.drop (start - a), (List.take_append_drop _ _).symm, by simp; omega⟩
    obtain ⟨Y1, Y2, rfl, hY1⟩ : ∃ Y1 Y2, Y = Y1 ++ Y2 ∧ Y1.length = fin - m := ⟨Y.take (fin - m), Y.drop (fin - m), (List.take_append_drop _ _).symm, by simp; omega⟩
    simp only [List.length_append] at hk hX0 hY0 hx hy hm hbb hlen
    obtain ⟨x1, x2, x3⟩ := List.pairwise_append.1 hX
    obtain ⟨y1, y2, y3⟩ := List.pairwise_append.1 hY
    have hst : start = a + X1.length := by omega
    have hfi : fin = m + Y1.length := by omega
    have N : Nums n X1.length X2.length Y1.length Y2.length a m b mid nn lo hi p start fin := ⟨by omega, by omega, hb, hmid, hnn, hp, hfin, hm, hbb, by omega, hst, hfi⟩
    simp only [List.append_assoc] at f1 f4 f15 f16 hn hkeys ⊢
    have hk2 : KeysOk (P ++ (X1 ++ (Y1 ++ (X2 ++ (Y2 ++ Q))))) := by
      intro z hz; refine hkeys z ?_
      simp only [List.mem_append] at hz ⊢
      rcases hz with h | h | h | h | h | h
      · exact .inl h
      · exact .inr (.inl h)
      · exact .inr (.inr (.inr (.inl h)))
      · exact .inr (.inr (.inl h))
      · exact .inr (.inr (.inr (.inr (.inl h))))
      · exact .inr (.inr (.inr (.inr (.inr h))))
    obtain ⟨Z1, p1, q1, s2, n2⟩ : ∃ Z1 : List Evt, Z1.Perm (X1 ++ Y1) ∧ Z1.Pairwise leE ∧ (a < start → start < mid → MergeTo g cl n a start mid (P ++ (X1 ++ (Y1 ++ (X2 ++ (Y2 ++ Q))))) (P ++ (Z1 ++ (X2 ++ (Y2 ++ Q))))) ∧ (¬ (a < start ∧ start < mid) → P ++ (Z1 ++ (X2 ++ (Y2 ++ Q))) = P ++ (X1 ++ (Y1 ++ (X2 ++ (Y2 ++ Q))))) := by
      by_cases c : a < start ∧ start < mid
      · obtain ⟨Z, p1, q1, r1⟩ := ih P X1 Y1 (X2 ++ (Y2 ++ Q)) (by omega) (by omega) (by omega) x1 y1 (by rw [hlen]; simp; omega) hk2 a start mid ha hst (by omega)
        exact ⟨Z, p1, q1, fun _ _ => r1, fun h => absurd c h⟩
      · refine ⟨X1 ++ Y1, .refl _, ?_, fun h1 h2 => absurd ⟨h1, h2⟩ c, fun _ => by simp⟩
        by_cases c1 : a < start
        · rw [show Y1 = [] from List.eq_nil_of_length_eq_zero (by omega), List.append_nil]; exact x1
        · rw [show X1 = [] from List.eq_nil_of_length_eq_zero (by omega), List.nil_append]; exact y1
    have lz := p1.length_eq
    rw [List.length_append] at lz
    have hk3 : KeysOk (P ++ Z1 ++ (X2 ++ (Y2 ++ Q))) := by
      intro z hz; refine hk2 z ?_
      have := p1.mem_iff (a := z)
      simp only [List.mem_append] at hz this ⊢
      rcases hz with (h | h) | h
      · exact .inl h
      · rcases this.1 h with h | h
        · exact .inr (.inl h)
        · exact .inr (.inr (.inl h))
      · exact .inr (.inr (.inr h))
    obtain ⟨Z2, p2, q2, s3, n3⟩ : ∃ Z2 : List Evt, Z2.Perm (X2 ++ Y2) ∧ Z2.Pairwise leE ∧ (mid < fin → fin < b → MergeTo g cl n mid fin b (P ++ (Z1 ++ (X2 ++ (Y2 ++ Q)))) (P ++ (Z1 ++ (Z2 ++ Q)))) ∧ (¬ (mid < fin ∧ fin < b) → P ++ (Z1 ++ (Z2 ++ Q)) = P ++ (Z1 ++ (X2 ++ (Y2 ++ Q)))) := by
      by_cases c : mid < fin ∧ fin < b
      · obtain ⟨Z, p2, q2, r2⟩ := ih (P ++ Z1) X2 Y2 Q (by omega) (by omega) (by omega) x2 y2 (by rw [hlen]; simp; omega) hk3 mid fin b (by simp; omega) (by omega) (by omega)
        simp only [List.append_assoc] at r2
        exact ⟨Z, p2, q2, fun _ _ => r2, fun h => absurd c h⟩
      · refine ⟨X2 ++ Y2, .refl _, ?_, fun h1 h2 => absurd ⟨h1, h2⟩ c, fun _ => by simp⟩
        by_cases c1 : mid < fin
        · rw [show Y2 = [] from List.eq_nil_of_length_eq_zero (by omega), List.append_nil]; exact x2
        · rw [show X2 = [] from List.eq_nil_of_length_eq_zero (by omega), List.nil_append]; exact y2
    have ms := merge_split leE_trans hX hY (Z1 := Z1) (Z2 := Z2) ?_ ?_ p1 p2 q1 q2
    · refine ⟨Z1 ++ Z2, by simpa using ms.1, ms.2, ?_⟩
      simp only [List.append_assoc]
      refine merge_way g cl n X1.length X2.length Y1.length Y2.length a m b mid nn lo hi p start fin _ _ _ _ N hlo ⟨y, f1, f2, f3, f4, f5, f6, f7, f8, f9, f10, f11, f12⟩ ?_ ?_ s2 n2 s3 n3
      · intro c1 c2
        have r := rotate_ev g cl n (P ++ X1) X2 Y1 (Y2 ++ Q) (by omega) (by omega) (by rw [hlen]; simp; omega) hb start m fin (by simp; omega) (by omega) (by omega)
        simpa only [List.append_assoc] using r
      · intro c
        by_cases c1 : start < m
        · rw [show Y1 = [] from List.eq_nil_of_length_eq_zero (by omega)]; simp
        · rw [show X2 = [] from List.eq_nil_of_length_eq_zero (by omega)]; simp
    · intro u v hu hv
      have hlt : X1.length - 1 < X1.length := (List.getElem?_eq_some_iff.1 hu).1
      have hlt2 : 0 < Y2.length := (List.getElem?_eq_some_iff.1 hv).1
      rcases f15 with h | h
      · omega
      · refine h u v ?_ ?_
        · rw [← hu]; exact get_in (L := P) (X := X1) (M := X2 ++ (Y1 ++ (Y2 ++ Q))) rfl hlt (by omega)
        · rw [← hv]; exact get_in (L := P ++ (X1 ++ (X2 ++ Y1))) (X := Y2) (M := Q) (by simp) hlt2 (by simp; omega)
    · intro u v hu hv
      have hlt : Y1.length - 1 < Y1.length := (List.getElem?_eq_some_iff.1 hu).1
      have hlt2 : 0 < X2.length := (List.getElem?_eq_some_iff.1 hv).1
      rcases f16 with h | h
      · omega
      · refine h u v ?_ ?_
        · rw [← hu]; exact get_in (L := P ++ (X1 ++ X2)) (X := Y1) (M := Y2 ++ Q) (by simp) hlt (by simp; omega)
        · rw [← hv]; exact get_in (L := P ++ X1) (X := X2) (M := Y1 ++ (Y2 ++ Q)) (by simp) hlt2 (by simp; omega)
end
set_option maxRecDepth 10000
theorem w64_mul2 {a : Nat} (h : a < 2 ^ 61) : IntKind.i64.wrap (2 * (a : Int)) = ((2 * a : Nat) : Int) := by rw [w64_small (by omega) (by omega)]; omega
theorem w64_mul2' {a : Nat} (h : a < 2 ^ 61) : IntKind.i64.wrap ((a : Int) * 2) = ((2 * a : Nat) : Int) := by rw [w64_small (by omega) (by omega)]; omega
section
variable (g : Nat) (cl : Bool) (n : Nat)
theorem stable_L1 (l : List Evt) (hn : n = l.length) (hb : n < 2 ^ 58) (hk : KeysOk l) :
    ∃ y, itB (exec (evL T) itL none c_slices_stableCmpFunc_api_SimEvent_L1) (Ev.settle [0, 1, 2, 6, 7, 8] true 1) ⟨[(0, .sl 0 g 0 n cl), (1, (.v (.int .i64 (n)))), (2, (.fn (.func n_evkey_CompareEvents) [] [])), (6, (.v (.int .i64 (20)))), (7, (.v (.int .i64 (0)))), (8, (.v (.int .i64 (20))))], []⟩ [.row 6 ((l).map Evt.r) g] = some y ∧
      ∃ a : Nat, y.1 = .exit 0 ∧ y.2.1.marks = [] ∧ Ev.look y.2.1.vars 0 = some (.sl 0 g 0 n cl) ∧ Ev.look y.2.1.vars 1 = some (.v (.int .i64 (n))) ∧ Ev.look y.2.1.vars 2 = some (.fn (.func n_evkey_CompareEvents) [] []) ∧ Ev.look y.2.1.vars 6 = some (.v (.int .i64 (20))) ∧ Ev.look y.2.1.vars 7 = some (.v (.int .i64 (a))) ∧
        ∃ Dn Rs : List Evt, y.2.2 = [.row 6 ((Dn ++ Rs).map Evt.r) g] ∧ a = Dn.length ∧ (Dn ++ Rs).Perm l ∧ Rs.length < 20 ∧ ∀ t, Blk leE 20 t → Blk leE 20 (Dn ++ t) := by
  have key := itB_while (f := exec (evL T) itL none c_slices_stableCmpFunc_api_SimEvent_L1) (s := Ev.settle [0, 1, 2, 6, 7, 8] true 1) (τ := List Evt × Nat)
    (fun s => ⟨[(0, .sl 0 g 0 n cl), (1, (.v (.int .i64 (n)))), (2, (.fn (.func n_evkey_CompareEvents) [] [])), (6, (.v (.int .i64 (20)))), (7, (.v (.int .i64 (s.2)))), (8, (.v (.int .i64 ((s.2 + 20 : Nat)))))], []⟩) (fun s => [.row 6 ((s.1).map Evt.r) g]) (fun s => n + 20 - s.2)
    (fun s => ∃ Dn Rs, s.1 = Dn ++ Rs ∧ s.2 = Dn.length ∧ (Dn ++ Rs).Perm l ∧ ∀ t, Blk leE 20 t → Blk leE 20 (Dn ++ t))
    (fun y => ∃ a : Nat, y.1 = .exit 0 ∧ y.2.1.marks = [] ∧ Ev.look y.2.1.vars 0 = some (.sl 0 g 0 n cl) ∧ Ev.look y.2.1.vars 1 = some (.v (.int .i64 (n))) ∧ Ev.look y.2.1.vars 2 = some (.fn (.func n_evkey_CompareEvents) [] []) ∧ Ev.look y.2.1.vars 6 = some (.v (.int .i64 (20))) ∧ Ev.look y.2.1.vars 7 = some (.v (.int .i64 (a))) ∧
        ∃ Dn Rs : List Evt, y.2.2 = [.row 6 ((Dn ++ Rs).map Evt.r) g] ∧ a = Dn.length ∧ (Dn ++ Rs).Perm l ∧ Rs.length < 20 ∧ ∀ t, Blk leE 20 t → Blk leE 20 (Dn ++ t)) ?_ (l, 0) ⟨[], l, rfl, rfl, .refl _, fun t h => h⟩
  · exact key
  rintro ⟨D, a⟩ ⟨Dn, Rs, hD, ha, hp, hB⟩
  simp only at hD ha ⊢
  have hl := hp.length_eq
  rw [List.length_append] at hl
  by_cases c : a + 20 ≤ n
  case neg =>
    have h1 : ¬ ((a + 20 : Nat) : Int) ≤ (n : Int) := by omega
    right
    simp only [c_slices_stableCmpFunc_api_SimEvent_L1, h1, Ev.exec, Ev.evOpers, Ev.evOper, Ev.item_op, Ev.evOp, Ev.Opnd.ev, Ev.Env.get, Ev.Env.set, Ev.look, Ev.bin_leq, ↓Ev.obind, Ev.it1, ↓reduceIte, Nat.reduceEqDiff, reduceCtorEq, decide_false, Bool.false_eq_true, eq_self]
    exact ⟨_, rfl, a, rfl, rfl, rfl, rfl, rfl, rfl, rfl, Dn, Rs, by rw [hD], ha, hp, by omega, hB⟩
  have h1 : ((a + 20 : Nat) : Int) ≤ (n : Int) := by omega
  obtain ⟨S, Q, rfl, hS⟩ : ∃ S Q, Rs = S ++ Q ∧ S.length = 20 := ⟨Rs.take 20, Rs.drop 20, (List.take_append_drop _ _).symm, by simp; omega⟩
  rw [List.length_append] at hl
  have hkD : KeysOk (Dn ++ (S ++ Q)) := hk.perm hp
  obtain ⟨S', p1, q1, r1⟩ := insertion_ev g cl n Dn S Q (by simp; omega) (by omega) hkD a (a + 20) ha (by omega)
  have w1 : IntKind.i64.wrap (((a + 20 : Nat) : Int) + 20) = ((a + 20 + 20 : Nat) : Int) := by rw [w64_small (by omega) (by omega)]; omega
  rw [← hD] at r1
  left
  refine ⟨(Dn ++ (S' ++ Q), a + 20), ?_, ⟨Dn ++ S', Q, by simp, ?_, ?_, ?_⟩, by simp only; omega⟩
  · simp only [c_slices_stableCmpFunc_api_SimEvent_L1, h1, w1, r1, evts_lo, Ev.exec, Ev.evOpers, Ev.evOper, Ev.item_op, Ev.item_I, Ev.evOp, Ev.evs, Ev.Opnd.ev, Ev.Env.get, Ev.Env.set, Ev.look, Ev.bin_add, Ev.bin_leq, Ev.settle, Ev.keep, Ev.varsLo, Ev.marksLo, Ev.storeLo, Ev.SObj.lo, Ev.lo_v, Ev.lo_sl, Ev.lo_fn, Ev.los_nil, ↓Ev.obind, Ev.it1, ↓reduceIte, List.take_succ_cons, List.take_nil, Nat.reduceEqDiff, reduceCtorEq, decide_true, Bool.and_self, and_self, Nat.lt_add_one, eq_self]
  · have := p1.length_eq; simp; omega
  · rw [List.append_assoc]; exact (List.Perm.append_left Dn (p1.append_right Q)).trans hp
  · intro t ht
    rw [List.append_assoc]
    exact hB _ (.more (by rw [p1.length_eq]; exact hS) q1 ht)
theorem stable_L3 (l D0 : List Evt) (hn : n = l.length) (hb : n < 2 ^ 58) (hk : KeysOk l) (s : Nat) (hs : 0 < s) (hsn : s < n) (hp0 : D0.Perm l) (hB0 : Blk leE s D0) :
    ∃ y, itB (exec (evL T) itL none c_slices_stableCmpFunc_api_SimEvent_L3) (Ev.settle [0, 1, 2, 6, 7, 8] true 1) ⟨[(0, .sl 0 g 0 n cl), (1, (.v (.int .i64 (n)))), (2, (.fn (.func n_evkey_CompareEvents) [] [])), (6, (.v (.int .i64 (s)))), (7, (.v (.int .i64 (0)))), (8, (.v (.int .i64 ((2 * s : Nat)))))], []⟩ [.row 6 ((D0).map Evt.r) g] = some y ∧
      ∃ a : Nat, y.1 = .exit 4 ∧ y.2.1.marks = [] ∧ Ev.look y.2.1.vars 0 = some (.sl 0 g 0 n cl) ∧ Ev.look y.2.1.vars 1 = some (.v (.int .i64 (n))) ∧ Ev.look y.2.1.vars 2 = some (.fn (.func n_evkey_CompareEvents) [] []) ∧ Ev.look y.2.1.vars 6 = some (.v (.int .i64 (s))) ∧ Ev.look y.2.1.vars 7 = some (.v (.int .i64 (a))) ∧
        ∃ Dn Rs : List Evt, y.2.2 = [.row 6 ((Dn ++ Rs).map Evt.r) g] ∧ a = Dn.length ∧ (Dn ++ Rs).Perm l ∧ Rs.length < 2 * s ∧ Blk leE s Rs ∧ ∀ t, Blk leE (2 * s) t → Blk leE (2 * s) (Dn ++ t) := by
  have key := itB_while (f := exec (evL T) itL none c_slices_stableCmpFunc_api_SimEvent_L3) (s := Ev.settle [0, 1, 2, 6, 7, 8] true 1) (τ := List Evt × Nat)
    (fun z => ⟨[(0, .sl 0 g 0 n cl), (1, (.v (.int .i64 (n)))), (2, (.fn (.func n_evkey_CompareEvents) [] [])), (6, (.v (.int .i64 (s)))), (7, (.v (.int .i64 (z.2)))), (8, (.v (.int .i64 ((z.2 + 2 * s : Nat)))))], []⟩) (fun z => [.row 6 ((z.1).map Evt.r) g]) (fun z => n + 2 * s - z.2)
    (fun z => ∃ Dn Rs, z.1 = Dn ++ Rs ∧ z.2 = Dn.length ∧ (Dn ++ Rs).Perm l ∧ Blk leE s Rs ∧ ∀ t, Blk leE (2 * s) t → Blk leE (2 * s) (Dn ++ t))
    (fun y => ∃ a : Nat, y.1 = .exit 4 ∧ y.2.1.marks = [] ∧ Ev.look y.2.1.vars 0 = some (.sl 0 g 0 n cl) ∧ Ev.look y.2.1.vars 1 = some (.v (.int .i64 (n))) ∧ Ev.look y.2.1.vars 2 = some (.fn (.func n_evkey_CompareEvents) [] []) ∧ Ev.look y.2.1.vars 6 = some (.v (.int .i64 (s))) ∧ Ev.look y.2.1.vars 7 = some (.v (.int .i64 (a))) ∧
        ∃ Dn Rs : List Evt, y.2.2 = [.row 6 ((Dn ++ Rs).map Evt.r) g] ∧ a = Dn.length ∧ (Dn ++ Rs).Perm l ∧ Rs.length < 2 * s ∧ Blk leE s Rs ∧ ∀ t, Blk leE (2 * s) t → Blk leE (2 * s) (Dn ++ t)) ?_ (D0, 0) ⟨[], D0, rfl, rfl, hp0, hB0, fun t h => h⟩
  · simp only [Nat.zero_add] at key; exact key
  rintro ⟨D, a⟩ ⟨Dn, Rs, hD, ha, hp, hR, hB⟩
  simp only at hD ha ⊢
  have hl := hp.length_eq
  rw [List.length_append] at hl
  by_cases c : a + 2 * s ≤ n
  case neg =>
    have h1 : ¬ ((a + 2 * s : Nat) : Int) ≤ (n : Int) := by omega
    right
    simp only [c_slices_stableCmpFunc_api_SimEvent_L3, h1, Ev.exec, Ev.evOpers, Ev.evOper, Ev.item_op, Ev.evOp, Ev.Opnd.ev, Ev.Env.get, Ev.Env.set, Ev.look, Ev.bin_leq, ↓Ev.obind, Ev.it1, ↓reduceIte, Nat.reduceEqDiff, reduceCtorEq, decide_false, Bool.false_eq_true, eq_self]
    exact ⟨_, rfl, a, rfl, rfl, rfl, rfl, rfl, rfl, rfl, Dn, Rs, by rw [hD], ha, hp, by omega, hR, hB⟩
  have h1 : ((a + 2 * s : Nat) : Int) ≤ (n : Int) := by omega
  obtain ⟨X, Y, Q, rfl, hX, hY, qX, qY, hQ⟩ : ∃ X Y Q, Rs = X ++ (Y ++ Q) ∧ X.length = s ∧ Y.length = s ∧ X.Pairwise leE ∧ Y.Pairwise leE ∧ Blk leE s Q := by
    obtain ⟨X, R1, rfl, h2, h3, h4⟩ := hR.split (by omega)
    rw [List.length_append] at hl
    by_cases c2 : R1.length ≤ s
    · exact ⟨X, R1, [], by simp, h2, by omega, h3, h4.sorted c2, .nil⟩
    · obtain ⟨Y, Q, rfl, h5, h6, h7⟩ := h4.split (by omega)
      exact ⟨X, Y, Q, rfl, h2, h5, h3, h6, h7⟩
  rw [List.length_append, List.length_append] at hl
  have hkD : KeysOk (Dn ++ (X ++ (Y ++ Q))) := hk.perm hp
  obtain ⟨Z, p1, q1, r1⟩ := symMerge_ev g cl n (by omega) _ Dn X Y Q (Nat.le_refl _) (by omega) (by omega) qX qY (by simp; omega) hkD a (a + s) (a + 2 * s) ha (by omega) (by omega)
  have w1 : IntKind.i64.wrap ((a : Int) + (s : Int)) = ((a + s : Nat) : Int) := w64_add (by omega)
  have w2 : IntKind.i64.wrap (2 * (s : Int)) = ((2 * s : Nat) : Int) := w64_mul2 (by omega)
  have w3 : IntKind.i64.wrap (((a + 2 * s : Nat) : Int) + ((2 * s : Nat) : Int)) = ((a + 2 * s + 2 * s : Nat) : Int) := w64_add (by omega)
  unfold MergeTo at r1
  rw [← hD] at r1
  have hz := p1.length_eq
  rw [List.length_append] at hz
  left
  refine ⟨(Dn ++ (Z ++ Q), a + 2 * s), ?_, ⟨Dn ++ Z, Q, by simp, ?_, ?_, hQ, ?_⟩, by simp only; omega⟩
  · simp only [c_slices_stableCmpFunc_api_SimEvent_L3, h1, w1, w2, w3, r1, evts_lo, Ev.exec, Ev.evOpers, Ev.evOper, Ev.item_op, Ev.item_I, Ev.evOp, Ev.evs, Ev.Opnd.ev, Ev.Env.get, Ev.Env.set, Ev.look, Ev.bin_add, Ev.bin_mul, Ev.bin_leq, Ev.settle, Ev.keep, Ev.varsLo, Ev.marksLo, Ev.storeLo, Ev.SObj.lo, Ev.lo_v, Ev.lo_sl, Ev.lo_fn, Ev.los_nil, ↓Ev.obind, Ev.it1, ↓reduceIte, List.take_succ_cons, List.take_nil, Nat.reduceEqDiff, reduceCtorEq, decide_true, Bool.and_self, and_self, Nat.lt_add_one, eq_self]
  · simp; omega
  · rw [List.append_assoc]
    refine (List.Perm.append_left Dn (p1.append_right Q)).trans ?_
    rw [List.append_assoc]; exact hp
  · intro t ht
    rw [List.append_assoc]
    exact hB _ (.more (by omega) q1 ht)
theorem stable_L2 (l D0 : List Evt) (hn : n = l.length) (hb : n < 2 ^ 58) (hk : KeysOk l) (hp0 : D0.Perm l) (hB0 : Blk leE 20 D0) :
    ∃ y, itB (exec (evL T) itL none c_slices_stableCmpFunc_api_SimEvent_L2) (Ev.settle [0, 1, 2, 6] true 1) ⟨[(0, .sl 0 g 0 n cl), (1, (.v (.int .i64 (n)))), (2, (.fn (.func n_evkey_CompareEvents) [] [])), (6, (.v (.int .i64 (20))))], []⟩ [.row 6 ((D0).map Evt.r) g] = some y ∧
      (y.1 = .exit 2 ∧ y.2.1.marks = [] ∧ ∃ l' : List Evt, y.2.2 = [.row 6 ((l').map Evt.r) g] ∧ l'.Perm l ∧ l'.Pairwise leE) := by
  have key := itB_while (f := exec (evL T) itL none c_slices_stableCmpFunc_api_SimEvent_L2) (s := Ev.settle [0, 1, 2, 6] true 1) (τ := List Evt × Nat)
    (fun z => ⟨[(0, .sl 0 g 0 n cl), (1, (.v (.int .i64 (n)))), (2, (.fn (.func n_evkey_CompareEvents) [] [])), (6, (.v (.int .i64 (z.2))))], []⟩) (fun z => [.row 6 ((z.1).map Evt.r) g]) (fun z => n - z.2)
    (fun z => z.1.Perm l ∧ 0 < z.2 ∧ Blk leE z.2 z.1)
    (fun y => y.1 = .exit 2 ∧ y.2.1.marks = [] ∧ ∃ l' : List Evt, y.2.2 = [.row 6 ((l').map Evt.r) g] ∧ l'.Perm l ∧ l'.Pairwise leE) ?_ (D0, 20) ⟨hp0, by simp, hB0⟩
  · exact key
  rintro ⟨D, s⟩ ⟨hp, hs, hB⟩
  simp only at hp hs hB ⊢
  have hl := hp.length_eq
  by_cases c : s < n
  case neg =>
    have h1 : ¬ (s : Int) < (n : Int) := by omega
    right
    simp only [c_slices_stableCmpFunc_api_SimEvent_L2, h1, Ev.exec, Ev.evOpers, Ev.evOper, Ev.item_op, Ev.evOp, Ev.Opnd.ev, Ev.Env.get, Ev.Env.set, Ev.look, Ev.bin_lss, ↓Ev.obind, Ev.it1, ↓reduceIte, Nat.reduceEqDiff, reduceCtorEq, decide_false, Bool.false_eq_true, eq_self]
    exact ⟨_, rfl, rfl, rfl, D, rfl, hp, hB.sorted (by omega)⟩
  have h1 : (s : Int) < (n : Int) := by omega
  obtain ⟨⟨y, e, σ⟩, k1, a, k2, k3, k4, k5, k6, k7, k8, Dn, Rs, k9, k10, k11, k12, k13, k14⟩ := stable_L3 g cl n l D hn hb hk s hs c hp hB
  simp only at k1 k2 k3 k4 k5 k6 k7 k8 k9
  subst k2; subst k9
  have hl2 := k11.length_eq
  rw [List.length_append] at hl2
  have w1 : IntKind.i64.wrap ((a : Int) + (s : Int)) = ((a + s : Nat) : Int) := w64_add (by omega)
  have w2 : IntKind.i64.wrap (2 * (s : Int)) = ((2 * s : Nat) : Int) := w64_mul2 (by omega)
  have w3 : IntKind.i64.wrap ((s : Int) * 2) = ((2 * s : Nat) : Int) := w64_mul2' (by omega)
  left
  by_cases c2 : a + s < n
  · have h2 : ((a + s : Nat) : Int) < (n : Int) := by omega
    obtain ⟨X, Y, rfl, hX, qX, hY⟩ := k13.split (by omega)
    rw [List.length_append] at hl2 k12
    have hkD : KeysOk (Dn ++ (X ++ (Y ++ []))) := by rw [List.append_nil]; exact hk.perm k11
    obtain ⟨Z, p1, q1, r1⟩ := symMerge_ev g cl n (by omega) _ Dn X Y [] (Nat.le_refl _) (by omega) (by omega) qX (hY.sorted (by omega)) (by simp; omega) hkD a (a + s) n k10 (by omega) (by omega)
    unfold MergeTo at r1
    simp only [List.append_nil] at r1
    have hz := p1.length_eq
    rw [List.length_append] at hz
    refine ⟨(Dn ++ Z, 2 * s), ?_, ⟨(List.Perm.append_left Dn p1).trans k11, by simp only; omega, k14 _ (.last (by omega) q1)⟩, by simp only; omega⟩
    simp only [c_slices_stableCmpFunc_api_SimEvent_L2, h1, h2, w1, w2, w3, k1, k3, k4, k5, k6, k7, k8, r1, evts_lo, Ev.exec, Ev.evOpers, Ev.evOper, Ev.item_op, Ev.item_I, Ev.evOp, Ev.evs, Ev.Opnd.ev, Ev.Env.get, Ev.Env.set, Ev.look, Ev.bin_add, Ev.bin_mul, Ev.bin_lss, Ev.settle, Ev.keep, Ev.varsLo, Ev.marksLo, Ev.storeLo, Ev.SObj.lo, Ev.lo_v, Ev.lo_sl, Ev.lo_fn, Ev.los_nil, ↓Ev.obind, ↓Ev.itL_itB, Ev.it1, ↓reduceIte, List.length_cons, List.length_nil, List.take_succ_cons, List.take_nil, Nat.reduceEqDiff, reduceCtorEq, decide_true, Bool.and_self, and_self, Nat.zero_add, Nat.lt_add_one, eq_self]
  · have h2 : ¬ ((a + s : Nat) : Int) < (n : Int) := by omega
    refine ⟨(Dn ++ Rs, 2 * s), ?_, ⟨k11, by simp only; omega, k14 _ (.last (by omega) (k13.sorted (by omega)))⟩, by simp only; omega⟩
    simp only [c_slices_stableCmpFunc_api_SimEvent_L2, h1, h2, w1, w2, w3, k1, k3, k4, k5, k6, k7, k8, evts_lo, Ev.exec, Ev.evOpers, Ev.evOper, Ev.item_op, Ev.evOp, Ev.Opnd.ev, Ev.Env.get, Ev.Env.set, Ev.look, Ev.bin_add, Ev.bin_mul, Ev.bin_lss, Ev.settle, Ev.keep, Ev.varsLo, Ev.marksLo, Ev.storeLo, Ev.SObj.lo, Ev.lo_v, Ev.lo_sl, Ev.lo_fn, Ev.los_nil, ↓Ev.obind, ↓Ev.itL_itB, Ev.it1, ↓reduceIte, List.length_cons, List.length_nil, List.take_succ_cons, List.take_nil, Nat.reduceEqDiff, reduceCtorEq, decide_true, decide_false, Bool.and_self, Bool.false_eq_true, and_self, Nat.zero_add, Nat.lt_add_one, eq_self]
theorem stable_ev (l : List Evt) (hn : n = l.length) (hb : n < 2 ^ 58) (hk : KeysOk l) :
    ∃ l' : List Evt, l'.Perm l ∧ l'.Pairwise leE ∧ (evL T).call n_slices_stableCmpFunc_api_SimEvent [.sl 0 g 0 n cl, (.v (.int .i64 (n))), (.fn (.func n_evkey_CompareEvents) [] [])] [.row 6 ((l).map Evt.r) g] = some (.tup [], [.row 6 ((l').map Evt.r) g]) := by
  obtain ⟨⟨y, e, σ⟩, k1, a, k2, k3, k4, k5, k6, k7, k8, Dn, Rs, k9, k10, k11, k12, k13⟩ := stable_L1 g cl n l hn hb hk
  simp only at k1 k2 k3 k4 k5 k6 k7 k8 k9
  subst k2; subst k9
  have hl := k11.length_eq
  rw [List.length_append] at hl
  obtain ⟨R', p1, q1, r1⟩ := insertion_ev g cl n Dn Rs [] (by simp; omega) (by omega) (by rw [List.append_nil]; exact hk.perm k11) a n k10 (by omega)
  simp only [List.append_nil] at r1
  obtain ⟨⟨y', e', σ'⟩, l1, l2, l3, l', l4, l5, l6⟩ := stable_L2 g cl n l (Dn ++ R') hn hb hk ((List.Perm.append_left Dn p1).trans k11) (k13 _ (.last (by rw [p1.length_eq]; omega) q1))
  simp only at l1 l2 l3 l4
  subst l2; subst l4
  refine ⟨l', l5, l6, ?_⟩
  rw [evL_code ext_slices_stableCmpFunc_api_SimEvent code_slices_stableCmpFunc_api_SimEvent]
  simp only [c_slices_stableCmpFunc_api_SimEvent, k1, k3, k4, k5, k6, k7, k8, r1, l1, l3, evts_lo, Ev.runFunc, Ev.exec, Ev.evOpers, Ev.evOper, Ev.item_op, Ev.item_I, Ev.evOp, Ev.evs, Ev.Opnd.ev, Ev.Env.get, Ev.Env.set, Ev.look, Ev.argVars, Ev.resVals, Ev.resOf, Ev.kill, Ev.leave, Ev.settle, Ev.keep, Ev.varsLo, Ev.marksLo, Ev.storeLo, Ev.SObj.lo, Ev.lo_v, Ev.lo_tup, Ev.lo_sl, Ev.lo_fn, Ev.los_nil, ↓Ev.obind, ↓Ev.itL_itB, ↓reduceIte, List.length_cons, List.length_nil, List.take_succ_cons, List.take_nil, Nat.reduceAdd, Nat.reduceEqDiff, reduceCtorEq, decide_true, Bool.and_self, and_self, Nat.zero_add, Nat.lt_add_one, eq_self]
theorem sortStable_ev (l : List Evt) (hn : n = l.length) (hb : n < 2 ^ 58) (hk : KeysOk l) :
    ∃ l' : List Evt, l'.Perm l ∧ l'.Pairwise leE ∧ (evL T).call n_slices_SortStableFunc_Lapi_SimEvent_api_SimEvent [.sl 0 g 0 n cl, (.fn (.func n_evkey_CompareEvents) [] [])] [.row 6 ((l).map Evt.r) g] = some (.tup [], [.row 6 ((l').map Evt.r) g]) := by
  obtain ⟨l', h1, h2, h3⟩ := stable_ev g cl n l hn hb hk
  refine ⟨l', h1, h2, ?_⟩
  rw [evL_code ext_slices_SortStableFunc_Lapi_SimEvent_api_SimEvent code_slices_SortStableFunc_Lapi_SimEvent_api_SimEvent]
  simp only [c_slices_SortStableFunc_Lapi_SimEvent_api_SimEvent, h3, evts_lo, Ev.runFunc, Ev.exec, Ev.evOpers, Ev.evOper, Ev.item_op, Ev.item_I, Ev.evOp, Ev.evs, Ev.Opnd.ev, Ev.Env.get, Ev.Env.set, Ev.look, Ev.argVars, Ev.resVals, Ev.resOf, Ev.kill, Ev.leave, Ev.storeLo, Ev.SObj.lo, Ev.lo_tup, Ev.los_nil, ↓Ev.obind, ↓reduceIte, List.length_cons, List.length_nil, List.take_succ_cons, List.take_nil, Nat.reduceAdd, Nat.reduceEqDiff, reduceCtorEq, Bool.and_self, and_self, Nat.zero_add, eq_self]
end
set_option maxRecDepth 10000
def sortL (l : List Evt) : List Evt := l.mergeSort (fun a b => decide (cmpE a b ≤ 0))
def Dist (l : List Evt) : Prop := l.Pairwise (fun a b => ¬ cmpE a b = 0)
theorem sortL_perm (l : List Evt) : (sortL l).Perm l := List.mergeSort_perm _ _
theorem sortL_sorted (l : List Evt) : (sortL l).Pairwise leE := by
  have := List.pairwise_mergeSort (le := fun a b => decide (cmpE a b ≤ 0)) (fun a b c h1 h2 => by simp only [decide_eq_true_eq] at h1 h2 ⊢; exact leE_trans a b c h1 h2) (fun a b => by
    have := cmpE_neg a b
    by_cases h : cmpE a b ≤ 0
    · simp [h]
    · have : cmpE b a ≤ 0 := by omega
      simp [this]) l
  exact this.imp (fun h => of_decide_eq_true h)
theorem Dist.eq {l : List Evt} (h : Dist l) {a b : Evt} (ha : a ∈ l) (hb : b ∈ l) (hc : cmpE a b = 0) : a = b := by
  obtain ⟨i, hi⟩ := List.mem_iff_getElem?.1 ha
  obtain ⟨j, hj⟩ := List.mem_iff_getElem?.1 hb
  obtain ⟨hi', rfl⟩ := List.getElem?_eq_some_iff.1 hi
  obtain ⟨hj', rfl⟩ := List.getElem?_eq_some_iff.1 hj
  rw [Dist, List.pairwise_iff_getElem] at h
  rcases Nat.lt_trichotomy i j with c | c | c
  · exact absurd hc (h i j hi' hj' c)
  · subst c; rfl
  · exact absurd (by rw [cmpE_neg]; omega) (h j i hj' hi' c)
theorem sortL_unique {l l' : List Evt} (hd : Dist l) (hp : l'.Perm l) (hs : l'.Pairwise leE) : l' = sortL l := by
  refine List.Perm.eq_of_pairwise (le := leE) (fun a b ha hb h1 h2 => ?_) hs (sortL_sorted l) (hp.trans (sortL_perm l).symm)
  refine hd.eq (hp.mem_iff.1 ha) ((sortL_perm l).mem_iff.1 hb) ?_
  have := cmpE_neg a b
  unfold leE at h1 h2; omega
theorem Dist.perm {l l' : List Evt} (h : Dist l) (p : l'.Perm l) : Dist l' := (p.pairwise_iff (fun {x y} hxy hyx => hxy (by rw [cmpE_neg]; omega))).2 h
theorem clone_evts_ev (l : List Evt) (c : Bool) (h : l.length ≤ 1000000) : (evL T).call n_slices_Clone_Lapi_SimEvent_api_SimEvent [(.fsl ((l).map Evt.r) c)] [] = some (.sl 0 0 0 l.length false, [.row 6 (l.map Evt.r) 0]) := by
  have h' : l.length * 64 ≤ 140737488355328 := by omega
  rw [evL_ext ext_slices_Clone_Lapi_SimEvent_api_SimEvent]
  simp only [cloneF, evts_lo, evts_ok, h', Ev.lo_fsl, Ev.los_nil, Ev.los_cons, List.length_map, ↓reduceIte, Nat.reduceLT, Nat.reducePow, Bool.and_self, and_self, eq_self]
theorem evkey_SortEvents_ev (l : List Evt) (c : Bool) (h : l.length ≤ 1000000) (hk : KeysOk l) : ∃ l' : List Evt, l'.Perm l ∧ l'.Pairwise leE ∧ callZ (evL T) n_evkey_SortEvents [(.fsl ((l).map Evt.r) c)] = some (.fsl ((l').map Evt.r) false) := by
  have hcl := clone_evts_ev l c h
  obtain ⟨l', h1, h2, h3⟩ := sortStable_ev 0 false l.length l rfl (by omega) hk
  refine ⟨l', h1, h2, ?_⟩
  have hlen := h1.length_eq
  rw [callZ, evL_code ext_evkey_SortEvents code_evkey_SortEvents]
  rw [← hlen] at hcl h3
  simp only [c_evkey_SortEvents, hcl, h3, evts_lo, Ev.runFunc, Ev.exec, Ev.evOpers, Ev.evOper, Ev.item_op, Ev.item_A, Ev.item_I, Ev.impO, Ev.AV.shift, Ev.evOp, Ev.evs, Ev.Opnd.ev, Ev.Env.get, Ev.Env.set, Ev.look, Ev.argVars, Ev.resVals, Ev.resVal, Ev.resOf, Ev.kill, Ev.leave, Ev.storeLo, Ev.lo_fsl, Ev.lo_sl, Ev.los_nil, Ev.los_cons, Ev.frz_own, Ev.omap_los, Ev.omap_nil, Ev.omap_cons, Ev.shiftss_lo, Ev.take_map_len, List.length_map, ↓Ev.obind, ↓reduceIte, List.length_cons, List.length_nil, List.getElem?_cons_zero, List.take_zero, List.drop_zero, List.nil_append, Nat.reduceEqDiff, Nat.reduceLT, reduceCtorEq, decide_false, Bool.and_self, Bool.false_eq_true, and_self, and_true, Nat.zero_add, Nat.add_zero, Nat.le_refl, eq_self]
theorem evkey_SortEvents_evD (l : List Evt) (c : Bool) (h : l.length ≤ 1000000) (hk : KeysOk l) (hd : Dist l) : callZ (evL T) n_evkey_SortEvents [(.fsl ((l).map Evt.r) c)] = some (.fsl ((sortL l).map Evt.r) false) := by
  obtain ⟨l', h1, h2, h3⟩ := evkey_SortEvents_ev l c h hk
  rw [← sortL_unique hd h1 h2]; exact h3
theorem ref03_CompareEvents_ev (x y : Evt) (hx : x.key.length ≤ 9223372036854775807) (hy : y.key.length ≤ 9223372036854775807) : callZ (evL T) n_ref03_CompareEvents [(.agg [(.v (.int .i64 (x.time))), (.fsl ((x.key).map intC) false), (.v (.int .i64 (x.lp))), (.v (.int .i64 (x.kind))), (.v (.int .i64 (x.proc))), (.v (.int .i64 (x.arg)))]), (.agg [(.v (.int .i64 (y.time))), (.fsl ((y.key).map intC) false), (.v (.int .i64 (y.lp))), (.v (.int .i64 (y.kind))), (.v (.int .i64 (y.proc))), (.v (.int .i64 (y.arg)))])] = some (.v (.int .i64 (cmpE x y))) := by
  obtain ⟨xt, xk, xl, xi, xp, xa⟩ := x
  obtain ⟨yt, yk, yl, yi, yp, ya⟩ := y
  have hc := ref03_Compare_ev xt yt
  have hk := CompareKeys_ev xk yk false false hx hy
  have hz := (cmpZ_cases xt yt).2.1
  rw [callZ, evL_code ext_ref03_CompareEvents code_ref03_CompareEvents]
  by_cases h : xt = yt
  · subst h
    have h0 : cmpZ xt xt = 0 := hz.2 rfl
    simp only [c_ref03_CompareEvents, cmpE, h0, hk, ints_lo, Ev.runFunc, Ev.exec, Ev.evOpers, Ev.evOper, Ev.item_op, Ev.item_P, Ev.evOp, Ev.evs, Ev.Opnd.ev, Ev.Env.get, Ev.Env.set, Ev.look, Ev.argVars, Ev.cellsAt, Ev.loadC, Ev.AV.cells, Ev.plains, Ev.AV.plain, Ev.bin_neq, Ev.resVals, Ev.resVal, Ev.resOf, Ev.kill, Ev.leave, Ev.storeLo, Ev.lo_v, Ev.lo_fsl, Ev.los_nil, Ev.los_cons, Ev.frz_lo, ↓Ev.obind, ↓reduceIte, List.length_cons, List.length_nil, List.take_nil, List.drop_succ_cons, List.drop_zero, List.head?_cons, Nat.reduceAdd, Nat.reduceEqDiff, reduceCtorEq, decide_false, Bool.and_self, Bool.false_eq_true, and_self, ne_eq, not_false_eq_true, not_true_eq_false, List.cons_ne_nil, Nat.zero_add, eq_self]
  · have h0 : ¬ cmpZ xt yt = 0 := fun e => h (hz.1 e)
    simp only [c_ref03_CompareEvents, cmpE, h0, h, hc, Ev.runFunc, Ev.exec, Ev.evOpers, Ev.evOper, Ev.item_op, Ev.item_P, Ev.evOp, Ev.evs, Ev.Opnd.ev, Ev.Env.get, Ev.Env.set, Ev.look, Ev.argVars, Ev.cellsAt, Ev.loadC, Ev.AV.cells, Ev.plains, Ev.AV.plain, Ev.bin_neq, Ev.resVals, Ev.resVal, Ev.resOf, Ev.kill, Ev.leave, Ev.storeLo, Ev.lo_v, Ev.los_nil, Ev.los_cons, Ev.frz_lo, ↓Ev.obind, ↓reduceIte, List.length_cons, List.length_nil, List.take_nil, List.drop_zero, List.head?_cons, Nat.reduceAdd, Nat.reduceEqDiff, reduceCtorEq, decide_true, Bool.and_self, Bool.false_eq_true, and_self, ne_eq, not_false_eq_true, List.cons_ne_nil, Nat.zero_add, eq_self]
set_option maxRecDepth 10000
def Adj (l : List Evt) : Prop := ∀ (k : Nat) (x y : Evt), l[k]? = some x → l[k + 1]? = some y → cmpE x y < 0
noncomputable def validB (l : List Evt) : Bool := @decide (Adj l) (Classical.propDecidable _)
theorem validB_iff (l : List Evt) : validB l = true ↔ Adj l := by unfold validB; simp
theorem validB_no {l : List Evt} (h : ¬ Adj l) : validB l = false := by
  cases hv : validB l with
  | false => rfl
  | true => exact absurd ((validB_iff l).1 hv) h
section
variable (l : List Evt) (c : Bool)
theorem mbValid_L (hl : l.length ≤ 1000000) (hk : KeysOk l) : ∃ y, itB (exec (evL T) itL none c_mailbox_Valid_L1) (Ev.settle [0, 5, 6] true 0) ⟨[(0, (.fsl ((l).map Evt.r) c)), (5, (.v (.int .i64 (l.length)))), (6, (.v (.int .i64 (0))))], []⟩ [] = some y ∧
    ((y.1 = .exit 0 ∧ y.2.1.marks = [] ∧ y.2.2 = [] ∧ Adj l) ∨ (y.1 = .ret ∧ y.2.1.marks = [] ∧ y.2.2 = [] ∧ Ev.look y.2.1.vars 2 = some (.v (.bool (false))) ∧ ¬ Adj l)) := by
  have key := itB_for (f := exec (evL T) itL none c_mailbox_Valid_L1) (s := Ev.settle [0, 5, 6] true 0) (α := Unit) (fun i _ => ⟨[(0, (.fsl ((l).map Evt.r) c)), (5, (.v (.int .i64 (l.length)))), (6, (.v (.int .i64 (i))))], []⟩) (fun _ _ => [])
    (fun i _ => ∀ (k : Nat) (x y : Evt), k + 1 < i → l[k]? = some x → l[k + 1]? = some y → cmpE x y < 0) l.length
    (fun y => (y.1 = .exit 0 ∧ y.2.1.marks = [] ∧ y.2.2 = [] ∧ Adj l) ∨ (y.1 = .ret ∧ y.2.1.marks = [] ∧ y.2.2 = [] ∧ Ev.look y.2.1.vars 2 = some (.v (.bool (false))) ∧ ¬ Adj l)) ?_ ?_ 0 () (Nat.zero_le _) (fun k x y h => by omega)
  · exact key
  · rintro i _ hi hinv
    obtain ⟨x, hx⟩ : ∃ x, l[i]? = some x := ⟨_, List.getElem?_eq_getElem hi⟩
    have hi' : (i : Int) < (l.length : Int) := by omega
    have hw : IntKind.i64.wrap ((i : Int) + 1) = ((i + 1 : Nat) : Int) := w64_add1 (by omega)
    by_cases h0 : i = 0
    · refine .inl ⟨(), ?_, fun k x y h => by omega⟩
      have c1 : ¬ (i : Int) > 0 := by omega
      simp only [c_mailbox_Valid_L1, hi', hw, c1, evts_lo, Ev.exec, Ev.evOpers, Ev.evOper, Ev.item_op, Ev.evOp, Ev.Opnd.ev, Ev.Env.get, Ev.Env.set, Ev.Env.unset, Ev.look, Ev.bin_add, Ev.bin_lss, Ev.bin_gtr, Ev.settle, Ev.keep, Ev.varsLo, Ev.marksLo, Ev.storeLo, Ev.lo_v, Ev.lo_fsl, ↓Ev.obind, Ev.it1, ↓reduceIte, List.take_nil, Nat.reduceEqDiff, reduceCtorEq, decide_true, decide_false, Bool.and_self, Bool.false_eq_true, and_self, eq_self]
    · obtain ⟨j, hj⟩ : ∃ j, i = j + 1 := ⟨i - 1, by omega⟩
      obtain ⟨p, hp⟩ : ∃ p, l[j]? = some p := ⟨_, List.getElem?_eq_getElem (by omega)⟩
      have c1 : (i : Int) > 0 := by omega
      have w1 : IntKind.i64.wrap ((i : Int) - 1) = (j : Int) := w64_sub1 hj (by omega)
      have hc := evkey_CompareEvents_ev p x (hk p (List.mem_of_getElem? hp)) (hk x (List.mem_of_getElem? hx))
      by_cases hlt : cmpE p x < 0
      · have hge : ¬ cmpE p x ≥ 0 := by omega
        refine .inl ⟨(), ?_, fun k u v h hu hv => ?_⟩
        · clear hlt hinv
          obtain ⟨xt, xk, xl, xi, xp, xa⟩ := x
          obtain ⟨yt, yk, yl, yi, yp, ya⟩ := p
          simp only at hc
          simp only [c_mailbox_Valid_L1, Int.natCast_nonneg, Int.toNat_natCast, List.getElem?_map, Option.map_some, hi', hw, c1, w1, hx, hp, hc, hge, Evt.r, evts_lo, ints_lo, Ev.exec, Ev.evOpers, Ev.evOper, Ev.item_op, Ev.item_P, Ev.evOp, Ev.evs, Ev.Opnd.ev, Ev.Env.get, Ev.Env.set, Ev.look, Ev.cellsAt, Ev.loadC, Ev.bin_add, Ev.bin_sub, Ev.bin_lss, Ev.bin_gtr, Ev.bin_geq, Ev.settle, Ev.keep, Ev.varsLo, Ev.marksLo, Ev.storeLo, Ev.lo_v, Ev.lo_agg, Ev.lo_fsl, Ev.los_nil, Ev.los_cons, ↓Ev.obind, Ev.it1, ↓reduceIte, List.length_cons, List.length_nil, List.take_succ_cons, List.take_nil, Nat.reduceAdd, Nat.reduceEqDiff, reduceCtorEq, decide_true, decide_false, Bool.and_self, Bool.false_eq_true, and_self, Nat.zero_add, Nat.le_refl, eq_self]
        · rcases Nat.lt_or_ge (k + 1) i with h1 | h1
          · exact hinv k u v h1 hu hv
          · have hkj : k = j := by omega
            subst hkj
            rw [← hj, hx] at hv
            rw [hp] at hu
            cases hu; cases hv; exact hlt
      · have hge : cmpE p x ≥ 0 := by omega
        have hno : ¬ Adj l := fun h => hlt (h j p x hp (by rw [← hj]; exact hx))
        refine .inr ?_
        clear hlt hinv
        obtain ⟨xt, xk, xl, xi, xp, xa⟩ := x
        obtain ⟨yt, yk, yl, yi, yp, ya⟩ := p
        simp only at hc
        simp only [c_mailbox_Valid_L1, Int.natCast_nonneg, Int.toNat_natCast, List.getElem?_map, Option.map_some, hi', c1, w1, hx, hp, hc, hge, Evt.r, ints_lo, Ev.exec, Ev.evOpers, Ev.evOper, Ev.item_op, Ev.item_P, Ev.evOp, Ev.evs, Ev.Opnd.ev, Ev.Env.get, Ev.Env.set, Ev.look, Ev.cellsAt, Ev.loadC, Ev.bin_sub, Ev.bin_lss, Ev.bin_gtr, Ev.bin_geq, Ev.lo_v, Ev.lo_agg, Ev.lo_fsl, Ev.los_nil, Ev.los_cons, ↓Ev.obind, Ev.it1, ↓reduceIte, List.length_cons, List.length_nil, List.take_succ_cons, List.take_nil, Nat.reduceAdd, Nat.reduceEqDiff, reduceCtorEq, decide_true, Bool.and_self, Nat.zero_add, Nat.le_refl, eq_self]
        exact ⟨_, rfl, .inr ⟨rfl, rfl, rfl, rfl, hno⟩⟩
  · rintro _ hinv
    simp only [c_mailbox_Valid_L1, Int.lt_irrefl, Ev.exec, Ev.evOpers, Ev.evOper, Ev.item_op, Ev.evOp, Ev.Opnd.ev, Ev.Env.get, Ev.Env.set, Ev.look, Ev.bin_lss, ↓Ev.obind, Ev.it1, ↓reduceIte, Nat.reduceEqDiff, reduceCtorEq, decide_false, Bool.false_eq_true, eq_self]
    exact ⟨_, rfl, .inl ⟨rfl, rfl, rfl, fun k x y hx hy => hinv k x y (List.getElem?_eq_some_iff.1 hy).1 hx hy⟩⟩
theorem mailbox_Valid_ev (hl : l.length ≤ 1000000) (hk : KeysOk l) : callZ (evL T) n_mailbox_Valid [(.fsl ((l).map Evt.r) c)] = some (.v (.bool (validB l))) := by
  obtain ⟨⟨y, e, σ⟩, h1, h2⟩ := mbValid_L l c hl hk
  rw [callZ, evL_code ext_mailbox_Valid code_mailbox_Valid]
  rcases h2 with ⟨h2, h3, h4, h5⟩ | ⟨h2, h3, h4, h5, h6⟩ <;> simp only at h2 h3 h4 h5 <;> subst h2 <;> subst h4
  · rw [(validB_iff l).2 h5]
    simp only [c_mailbox_Valid, h1, h3, evts_lo, Ev.runFunc, Ev.exec, Ev.evOpers, Ev.evOper, Ev.item_op, Ev.evOp, Ev.Opnd.ev, Ev.Env.get, Ev.Env.set, Ev.look, Ev.argVars, Ev.resVals, Ev.resVal, Ev.resOf, Ev.kill, Ev.leave, Ev.settle, Ev.keep, Ev.varsLo, Ev.marksLo, Ev.storeLo, Ev.lo_v, Ev.lo_fsl, Ev.frz_lo, List.length_map, ↓Ev.obind, ↓Ev.itL_itB, ↓reduceIte, List.length_cons, List.length_nil, List.take_nil, Nat.reduceEqDiff, reduceCtorEq, Bool.and_self, and_self, Nat.zero_add, eq_self]
  · rw [validB_no h6]
    simp only [c_mailbox_Valid, h1, h3, h5, evts_lo, Ev.runFunc, Ev.exec, Ev.evOpers, Ev.evOper, Ev.item_op, Ev.evOp, Ev.Opnd.ev, Ev.Env.get, Ev.Env.set, Ev.look, Ev.argVars, Ev.resVals, Ev.resVal, Ev.resOf, Ev.kill, Ev.leave, Ev.settle, Ev.keep, Ev.varsLo, Ev.marksLo, Ev.storeLo, Ev.lo_v, Ev.lo_fsl, Ev.frz_lo, List.length_map, ↓Ev.obind, ↓Ev.itL_itB, ↓reduceIte, List.length_cons, List.length_nil, List.take_nil, Nat.reduceEqDiff, reduceCtorEq, Bool.and_self, and_self, Nat.zero_add, eq_self]
theorem refValid_L (hl : l.length ≤ 1000000) (hk : KeysOk l) : ∃ y, itB (exec (evL T) itL none c_ref22_Valid_L1) (Ev.settle [0, 3] true 0) ⟨[(0, (.fsl ((l).map Evt.r) c)), (3, (.v (.int .i64 (1))))], []⟩ [] = some y ∧
    ((y.1 = .exit 0 ∧ y.2.1.marks = [] ∧ y.2.2 = [] ∧ Adj l) ∨ (y.1 = .ret ∧ y.2.1.marks = [] ∧ y.2.2 = [] ∧ Ev.look y.2.1.vars 2 = some (.v (.bool (false))) ∧ ¬ Adj l)) := by
  have key := itB_for (f := exec (evL T) itL none c_ref22_Valid_L1) (s := Ev.settle [0, 3] true 0) (α := Unit) (fun i _ => ⟨[(0, (.fsl ((l).map Evt.r) c)), (3, (.v (.int .i64 ((i + 1 : Nat)))))], []⟩) (fun _ _ => [])
    (fun i _ => ∀ (k : Nat) (x y : Evt), k < i → l[k]? = some x → l[k + 1]? = some y → cmpE x y < 0) (l.length - 1)
    (fun y => (y.1 = .exit 0 ∧ y.2.1.marks = [] ∧ y.2.2 = [] ∧ Adj l) ∨ (y.1 = .ret ∧ y.2.1.marks = [] ∧ y.2.2 = [] ∧ Ev.look y.2.1.vars 2 = some (.v (.bool (false))) ∧ ¬ Adj l)) ?_ ?_ 0 () (Nat.zero_le _) (fun k x y h => by omega)
  · exact key
  · rintro j _ hj hinv
    obtain ⟨i, hi⟩ : ∃ i, i = j + 1 := ⟨_, rfl⟩
    obtain ⟨x, hx⟩ : ∃ x, l[i]? = some x := ⟨_, List.getElem?_eq_getElem (by omega)⟩
    obtain ⟨p, hp⟩ : ∃ p, l[j]? = some p := ⟨_, List.getElem?_eq_getElem (by omega)⟩
    rw [← hi]
    have hi' : (i : Int) < (l.length : Int) := by omega
    have hw : IntKind.i64.wrap ((i : Int) + 1) = ((i + 1 : Nat) : Int) := w64_add1 (by omega)
    have w1 : IntKind.i64.wrap ((i : Int) - 1) = (j : Int) := w64_sub1 hi (by omega)
    have hc := ref03_CompareEvents_ev p x (hk p (List.mem_of_getElem? hp)) (hk x (List.mem_of_getElem? hx))
    by_cases hlt : cmpE p x < 0
    · have hge : ¬ cmpE p x ≥ 0 := by omega
      refine .inl ⟨(), ?_, fun k u v h hu hv => ?_⟩
      · clear hlt hinv
        obtain ⟨xt, xk, xl, xi, xp, xa⟩ := x
        obtain ⟨yt, yk, yl, yi, yp, ya⟩ := p
        simp only at hc
        simp only [c_ref22_Valid_L1, Int.natCast_nonneg, Int.toNat_natCast, List.getElem?_map, Option.map_some, hi', hw, w1, hx, hp, hc, hge, Evt.r, evts_lo, ints_lo, Ev.exec, Ev.evOpers, Ev.evOper, Ev.item_op, Ev.item_P, Ev.evOp, Ev.evs, Ev.Opnd.ev, Ev.Env.get, Ev.Env.set, Ev.look, Ev.cellsAt, Ev.loadC, Ev.bin_add, Ev.bin_sub, Ev.bin_lss, Ev.bin_geq, Ev.settle, Ev.keep, Ev.varsLo, Ev.marksLo, Ev.storeLo, Ev.lo_v, Ev.lo_agg, Ev.lo_fsl, Ev.los_nil, Ev.los_cons, List.length_map, ↓Ev.obind, Ev.it1, ↓reduceIte, List.length_cons, List.length_nil, List.take_succ_cons, List.take_nil, Nat.reduceAdd, Nat.reduceEqDiff, reduceCtorEq, decide_true, decide_false, Bool.and_self, Bool.false_eq_true, and_self, Nat.zero_add, Nat.le_refl, eq_self]
      · rcases Nat.lt_or_ge k j with h1 | h1
        · exact hinv k u v h1 hu hv
        · have hkj : k = j := by omega
          subst hkj
          rw [← hi, hx] at hv
          rw [hp] at hu
          cases hu; cases hv; exact hlt
    · have hge : cmpE p x ≥ 0 := by omega
      have hno : ¬ Adj l := fun h => hlt (h j p x hp (by rw [← hi]; exact hx))
      refine .inr ?_
      clear hlt hinv
      obtain ⟨xt, xk, xl, xi, xp, xa⟩ := x
      obtain ⟨yt, yk, yl, yi, yp, ya⟩ := p
      simp only at hc
      simp only [c_ref22_Valid_L1, Int.natCast_nonneg, Int.toNat_natCast, List.getElem?_map, Option.map_some, hi', w1, hx, hp, hc, hge, Evt.r, ints_lo, Ev.exec, Ev.evOpers, Ev.evOper, Ev.item_op, Ev.item_P, Ev.evOp, Ev.evs, Ev.Opnd.ev, Ev.Env.get, Ev.Env.set, Ev.look, Ev.cellsAt, Ev.loadC, Ev.bin_sub, Ev.bin_lss, Ev.bin_geq, Ev.lo_v, Ev.lo_agg, Ev.lo_fsl, Ev.los_nil, Ev.los_cons, List.length_map, ↓Ev.obind, Ev.it1, ↓reduceIte, List.length_cons, List.length_nil, List.take_succ_cons, List.take_nil, Nat.reduceAdd, Nat.reduceEqDiff, reduceCtorEq, decide_true, Bool.and_self, Nat.zero_add, Nat.le_refl, eq_self]
      exact ⟨_, rfl, .inr ⟨rfl, rfl, rfl, rfl, hno⟩⟩
  · rintro _ hinv
    have hn : ¬ ((l.length - 1 + 1 : Nat) : Int) < (l.length : Int) := by omega
    simp only [c_ref22_Valid_L1, hn, Ev.exec, Ev.evOpers, Ev.evOper, Ev.item_op, Ev.evOp, Ev.Opnd.ev, Ev.Env.get, Ev.Env.set, Ev.look, Ev.bin_lss, List.length_map, ↓Ev.obind, Ev.it1, ↓reduceIte, Nat.reduceEqDiff, reduceCtorEq, decide_false, Bool.false_eq_true, eq_self]
    exact ⟨_, rfl, .inl ⟨rfl, rfl, rfl, fun k x y hx hy => hinv k x y (by have := (List.getElem?_eq_some_iff.1 hy).1; omega) hx hy⟩⟩
theorem ref22_Valid_ev (hl : l.length ≤ 1000000) (hk : KeysOk l) : callZ (evL T) n_ref22_Valid [(.fsl ((l).map Evt.r) c)] = some (.v (.bool (validB l))) := by
  obtain ⟨⟨y, e, σ⟩, h1, h2⟩ := refValid_L l c hl hk
  rw [callZ, evL_code ext_ref22_Valid code_ref22_Valid]
  rcases h2 with ⟨h2, h3, h4, h5⟩ | ⟨h2, h3, h4, h5, h6⟩ <;> simp only at h2 h3 h4 h5 <;> subst h2 <;> subst h4
  · rw [(validB_iff l).2 h5]
    simp only [c_ref22_Valid, h1, h3, evts_lo, Ev.runFunc, Ev.exec, Ev.evOpers, Ev.evOper, Ev.item_op, Ev.evOp, Ev.Opnd.ev, Ev.Env.get, Ev.Env.set, Ev.look, Ev.argVars, Ev.resVals, Ev.resVal, Ev.resOf, Ev.kill, Ev.leave, Ev.settle, Ev.keep, Ev.varsLo, Ev.marksLo, Ev.storeLo, Ev.lo_v, Ev.lo_fsl, Ev.frz_lo, ↓Ev.obind, ↓Ev.itL_itB, ↓reduceIte, List.length_cons, List.length_nil, List.take_nil, reduceCtorEq, Bool.and_self, and_self, Nat.zero_add, eq_self]
  · rw [validB_no h6]
    simp only [c_ref22_Valid, h1, h3, h5, evts_lo, Ev.runFunc, Ev.exec, Ev.evOpers, Ev.evOper, Ev.item_op, Ev.evOp, Ev.Opnd.ev, Ev.Env.get, Ev.Env.set, Ev.look, Ev.argVars, Ev.resVals, Ev.resVal, Ev.resOf, Ev.kill, Ev.leave, Ev.settle, Ev.keep, Ev.varsLo, Ev.marksLo, Ev.storeLo, Ev.lo_v, Ev.lo_fsl, Ev.frz_lo, ↓Ev.obind, ↓Ev.itL_itB, ↓reduceIte, List.length_cons, List.length_nil, List.take_nil, reduceCtorEq, Bool.and_self, and_self, Nat.zero_add, eq_self]
end
set_option maxRecDepth 10000
def noEvt : Evt := ⟨0, [], 0, 0, 0, 0⟩
def takeE (l : List Evt) (b : Int) : List Evt × Evt × Bool := match l with
  | [] => ([], noEvt, false)
  | x :: r => if x.time < b then (r, x, true) else (x :: r, noEvt, false)
theorem mailbox_Take_ev (l : List Evt) (c : Bool) (b : Int) (hl : l.length ≤ 1000000) : ∃ c' : Bool, callZ (evL T) n_mailbox_Take [(.fsl ((l).map Evt.r) c), (.v (.int .i64 (b)))] = some (.tup [(.fsl (((takeE l b).1).map Evt.r) c'), (.agg [(.v (.int .i64 ((takeE l b).2.1.time))), (.fsl (((takeE l b).2.1.key).map intC) false), (.v (.int .i64 ((takeE l b).2.1.lp))), (.v (.int .i64 ((takeE l b).2.1.kind))), (.v (.int .i64 ((takeE l b).2.1.proc))), (.v (.int .i64 ((takeE l b).2.1.arg)))]), (.v (.bool ((takeE l b).2.2)))]) := by
  rw [callZ, evL_code ext_mailbox_Take code_mailbox_Take]
  cases l with
  | nil =>
    refine ⟨c, ?_⟩
    simp only [c_mailbox_Take, takeE, noEvt, List.map_nil, Int.lt_irrefl, Ev.runFunc, Ev.exec, Ev.evOpers, Ev.evOper, Ev.item_op, Ev.evOp, Ev.Opnd.ev, Ev.Env.get, Ev.Env.set, Ev.Env.unset, Ev.look, Ev.argVars, Ev.cellsAt, Ev.loadC, Ev.fillP, Ev.AV.cells, Ev.plains, Ev.AV.plain, Ev.bin_gtr, Ev.resVals, Ev.resVal, Ev.resOf, Ev.kill, Ev.leave, Ev.storeLo, Ev.lo_v, Ev.lo_agg, Ev.lo_tup, Ev.lo_fsl, Ev.los_nil, Ev.los_cons, Ev.loss_nil, Ev.frz_lo, ↓Ev.obind, ↓reduceIte, List.length_cons, List.length_nil, List.getElem?_cons_zero, List.take_succ_cons, List.take_zero, List.take_nil, List.drop_succ_cons, List.drop_zero, List.drop_nil, List.nil_append, List.append_nil, List.set_cons_zero, Nat.reduceAdd, Nat.reduceEqDiff, Int.cast_ofNat_Int, reduceCtorEq, decide_false, Bool.and_self, Bool.false_eq_true, and_self, ne_eq, not_false_eq_true, List.cons_ne_nil, Nat.zero_add, Nat.le_refl, eq_self]
    try rfl
  | cons x r =>
    have hcl := clone_evts_ev r c (by simp at hl; omega)
    have h1 : (1 : Int) ≤ ((r.length + 1 : Nat) : Int) := by omega
    have htk : (r.map Evt.r).take r.length = r.map Evt.r := List.take_of_length_le (by simp)
    obtain ⟨xt, xk, xl, xi, xp, xa⟩ := x
    have h0 : ((r.length + 1 : Nat) : Int) > 0 := by omega
    by_cases h : xt < b
    · refine ⟨false, ?_⟩
      simp only [c_mailbox_Take, takeE, Int.toNat_natCast, List.map_cons, Evt.r, h0, h1, h, hcl, htk, Int.le_refl, Nat.add_sub_cancel, imp_self, ints_lo, evts_lo, evts_ok, Ev.runFunc, Ev.exec, Ev.evOpers, Ev.evOper, Ev.item_op, Ev.item_A, Ev.impO, Ev.AV.shift, Ev.evOp, Ev.evs, Ev.Opnd.ev, Ev.Env.get, Ev.Env.set, Ev.look, Ev.argVars, Ev.optInt, Ev.cellsAt, Ev.loadC, Ev.AV.cells, Ev.plains, Ev.AV.plain, Ev.bin_lss, Ev.bin_gtr, Ev.resVals, Ev.resVal, Ev.resOf, Ev.kill, Ev.leave, Ev.storeLo, Ev.lo_v, Ev.lo_agg, Ev.lo_tup, Ev.lo_fsl, Ev.lo_sl, Ev.los_nil, Ev.los_cons, Ev.okRows_cons, Ev.frz_lo, Ev.frz_tup, Ev.frz_own, Ev.omap_los, Ev.omap_nil, Ev.omap_cons, Ev.shiftss_lo, List.length_map, ↓Ev.obind, ↓reduceIte, List.length_cons, List.length_nil, List.getElem?_cons_zero, List.getElem?_cons_succ, List.take_succ_cons, List.take_zero, List.take_nil, List.drop_succ_cons, List.drop_zero, List.drop_nil, List.cons_append, List.nil_append, List.append_nil, List.set_cons_zero, List.head?_cons, Nat.reduceAdd, Nat.reduceEqDiff, Nat.reduceLT, Int.reduceLE, Int.reduceToNat, reduceCtorEq, decide_true, decide_false, Bool.and_self, Bool.and_true, Bool.false_eq_true, and_self, and_true, ne_eq, not_false_eq_true, List.cons_ne_nil, Nat.zero_add, Nat.le_refl, Option.isSome_none, eq_self]
      try rfl
    · refine ⟨c, ?_⟩
      simp only [c_mailbox_Take, takeE, noEvt, List.map_cons, Evt.r, h0, h, ints_lo, evts_lo, Ev.runFunc, Ev.exec, Ev.evOpers, Ev.evOper, Ev.item_op, Ev.evOp, Ev.Opnd.ev, Ev.Env.get, Ev.Env.set, Ev.look, Ev.argVars, Ev.cellsAt, Ev.loadC, Ev.fillP, Ev.AV.cells, Ev.plains, Ev.AV.plain, Ev.bin_lss, Ev.bin_gtr, Ev.resVals, Ev.resVal, Ev.resOf, Ev.kill, Ev.leave, Ev.storeLo, Ev.lo_v, Ev.lo_agg, Ev.lo_tup, Ev.lo_fsl, Ev.los_nil, Ev.los_cons, Ev.loss_nil, Ev.loss_cons, Ev.frz_lo, List.length_map, ↓Ev.obind, ↓reduceIte, List.length_cons, List.length_nil, List.getElem?_cons_zero, List.take_succ_cons, List.take_zero, List.take_nil, List.drop_succ_cons, List.drop_zero, List.drop_nil, List.nil_append, List.append_nil, List.set_cons_zero, List.head?_cons, Nat.reduceAdd, Nat.reduceEqDiff, Int.reduceLE, Int.reduceToNat, reduceCtorEq, decide_true, decide_false, Bool.and_self, Bool.false_eq_true, and_self, ne_eq, not_false_eq_true, List.cons_ne_nil, Nat.zero_add, Nat.le_refl, eq_self]
      try rfl
theorem ref22_Take_ev (l : List Evt) (c : Bool) (b : Int) (hl : l.length ≤ 1000000) : ∃ c' : Bool, callZ (evL T) n_ref22_Take [(.fsl ((l).map Evt.r) c), (.v (.int .i64 (b)))] = some (.tup [(.fsl (((takeE l b).1).map Evt.r) c'), (.agg [(.v (.int .i64 ((takeE l b).2.1.time))), (.fsl (((takeE l b).2.1.key).map intC) false), (.v (.int .i64 ((takeE l b).2.1.lp))), (.v (.int .i64 ((takeE l b).2.1.kind))), (.v (.int .i64 ((takeE l b).2.1.proc))), (.v (.int .i64 ((takeE l b).2.1.arg)))]), (.v (.bool ((takeE l b).2.2)))]) := by
  rw [callZ, evL_code ext_ref22_Take code_ref22_Take]
  cases l with
  | nil =>
    refine ⟨c, ?_⟩
    simp only [c_ref22_Take, takeE, noEvt, List.map_nil, Ev.runFunc, Ev.exec, Ev.evOpers, Ev.evOper, Ev.item_op, Ev.evOp, Ev.Opnd.ev, Ev.Env.get, Ev.Env.set, Ev.Env.unset, Ev.look, Ev.argVars, Ev.cellsAt, Ev.loadC, Ev.fillP, Ev.AV.cells, Ev.plains, Ev.AV.plain, Ev.bin_eql, Ev.resVals, Ev.resVal, Ev.resOf, Ev.kill, Ev.leave, Ev.storeLo, Ev.lo_v, Ev.lo_agg, Ev.lo_tup, Ev.lo_fsl, Ev.los_nil, Ev.los_cons, Ev.loss_nil, Ev.frz_lo, ↓Ev.obind, ↓reduceIte, List.length_cons, List.length_nil, List.getElem?_cons_zero, List.take_succ_cons, List.take_zero, List.take_nil, List.drop_succ_cons, List.drop_zero, List.drop_nil, List.nil_append, List.append_nil, List.set_cons_zero, Nat.reduceAdd, Nat.reduceEqDiff, Int.cast_ofNat_Int, reduceCtorEq, decide_true, Bool.and_self, Bool.true_eq_false, and_self, ne_eq, not_false_eq_true, List.cons_ne_nil, Nat.zero_add, Nat.le_refl, eq_self]
    try rfl
  | cons x r =>
    have h1 : (1 : Int) ≤ ((r.length + 1 : Nat) : Int) := by omega
    have hb : (0 + r.length) * 64 ≤ 140737488355328 := by simp at hl; omega
    have hb' : r.length * 64 ≤ 140737488355328 := by simp at hl; omega
    have htk : (r.map Evt.r).take r.length = r.map Evt.r := List.take_of_length_le (by simp)
    obtain ⟨xt, xk, xl, xi, xp, xa⟩ := x
    have h0 : ¬ ((r.length + 1 : Nat) : Int) = 0 := by omega
    by_cases h : xt < b
    · refine ⟨false, ?_⟩
      have h' : ¬ xt ≥ b := by omega
      simp only [c_ref22_Take, takeE, Int.toNat_natCast, List.map_cons, Evt.r, h0, h1, h, h', hb', htk, Int.le_refl, Nat.add_sub_cancel, imp_self, ints_lo, evts_lo, evts_ok, Ev.runFunc, Ev.exec, Ev.evOpers, Ev.evOper, Ev.item_op, Ev.evOp, Ev.Opnd.ev, Ev.Env.get, Ev.Env.set, Ev.look, Ev.argVars, Ev.optInt, Ev.cellsAt, Ev.content, Ev.loadC, Ev.fillR, Ev.AV.cells, Ev.plains, Ev.AV.plain, Ev.bin_eql, Ev.bin_geq, Ev.resVals, Ev.resVal, Ev.resOf, Ev.kill, Ev.leave, Ev.storeLo, Ev.lo_v, Ev.lo_agg, Ev.lo_tup, Ev.lo_fsl, Ev.lo_sl, Ev.los_nil, Ev.los_cons, Ev.okRows_cons, Ev.frz_lo, Ev.frz_tup, Ev.frz_own, Ev.omap_los, Ev.omap_nil, Ev.omap_cons, List.replicate_zero, List.length_map, ↓Ev.obind, ↓reduceIte, List.length_cons, List.length_nil, List.getElem?_cons_zero, List.getElem?_cons_succ, List.take_succ_cons, List.take_zero, List.take_nil, List.drop_succ_cons, List.drop_zero, List.drop_nil, List.cons_append, List.nil_append, List.append_nil, List.set_cons_zero, List.head?_cons, Nat.reduceAdd, Nat.reduceEqDiff, Nat.reduceMul, Nat.reduceLT, Nat.reduceLeDiff, Nat.reducePow, Int.reduceLE, Int.reduceToNat, reduceCtorEq, decide_true, decide_false, Bool.and_self, Bool.and_true, Bool.false_eq_true, and_self, and_true, ne_eq, not_false_eq_true, not_true_eq_false, List.cons_ne_nil, Nat.zero_add, Nat.le_refl, Option.isSome_none, eq_self, and_false]
      try rfl
    · refine ⟨c, ?_⟩
      have h' : xt ≥ b := by omega
      simp only [c_ref22_Take, takeE, noEvt, List.map_cons, Evt.r, h0, h, h', ints_lo, evts_lo, Ev.runFunc, Ev.exec, Ev.evOpers, Ev.evOper, Ev.item_op, Ev.evOp, Ev.Opnd.ev, Ev.Env.get, Ev.Env.set, Ev.look, Ev.argVars, Ev.cellsAt, Ev.loadC, Ev.fillP, Ev.AV.cells, Ev.plains, Ev.AV.plain, Ev.bin_eql, Ev.bin_geq, Ev.resVals, Ev.resVal, Ev.resOf, Ev.kill, Ev.leave, Ev.storeLo, Ev.lo_v, Ev.lo_agg, Ev.lo_tup, Ev.lo_fsl, Ev.los_nil, Ev.los_cons, Ev.loss_nil, Ev.loss_cons, Ev.frz_lo, List.length_map, ↓Ev.obind, ↓reduceIte, List.length_cons, List.length_nil, List.getElem?_cons_zero, List.take_succ_cons, List.take_zero, List.take_nil, List.drop_succ_cons, List.drop_zero, List.drop_nil, List.nil_append, List.append_nil, List.set_cons_zero, List.head?_cons, Nat.reduceAdd, Nat.reduceEqDiff, Int.reduceLE, Int.reduceToNat, reduceCtorEq, decide_true, decide_false, Bool.and_self, Bool.false_eq_true, and_self, ne_eq, not_false_eq_true, List.cons_ne_nil, Nat.zero_add, Nat.le_refl, eq_self]
      try rfl
end Go.Proofs.Ytdphbgnlmffgaaa.K
