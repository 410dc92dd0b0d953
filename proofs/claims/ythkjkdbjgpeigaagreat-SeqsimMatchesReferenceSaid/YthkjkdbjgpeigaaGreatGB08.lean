/- For every input the statement of this claim returns true: texts of its proof, joined (part 9). -/
import Derived.Test.YthkjkdbjgpeigaaGreatGB05
import Derived.Test.YthkjkdbjgpeigaaGreatGB06
import Derived.Test.YthkjkdbjgpeigaaGreatGB07
set_option linter.unusedSectionVars false
set_option linter.unusedSimpArgs false
set_option linter.unusedVariables false
namespace Go.Proofs.YthkjkdbjgpeigaaGreat.K
open Go.Ev
set_option maxRecDepth 10000
section
variable (g : Nat) (cl : Bool) (n : Nat)
def qbg (a m b : Nat) (D D' : List Evt) : Prop := (evL T).call qas [.sl 0 g 0 n cl, (ii a), (ii m), (ii b), (.fn (.func qu) [] [])] [.row 6 ((D).map Evt.r) g] = some (.tup [], [.row 6 ((D').map Evt.r) g])
structure Nums (x1 x2 y1 y2 a m b mid nn lo hi p start fin : Nat) : Prop where
  hX1 : 1 < x1 + x2
  hY1 : 1 < y1 + y2
  hb : n < 2 ^ 61
  hmid : mid = (a + b) / 2
  hnn : nn = mid + m
  hp : nn = p + 1
  hfin : nn = start + fin
  hm : m = a + (x1 + x2)
  hbb : b = m + (y1 + y2)
  hbn : b ≤ n
  hst : start = a + x1
  hfi : fin = m + y1
structure Wraps (x1 x2 y1 y2 a m b mid nn p start fin : Nat) : Prop where
  w1 : IntKind.i64.wrap ((m : Int) - (a : Int)) = ((x1 + x2 : Nat) : Int)
  h1 : ¬ ((x1 + x2 : Nat) : Int) = 1
  w2 : IntKind.i64.wrap ((b : Int) - (m : Int)) = ((y1 + y2 : Nat) : Int)
  h2 : ¬ ((y1 + y2 : Nat) : Int) = 1
  w3 : IntKind.i64.wrap ((a : Int) + (b : Int)) = ((a + b : Nat) : Int)
  w4 : IntKind.u64.wrap ((a + b : Nat) : Int) = ((a + b : Nat) : Int)
  w5 : qmc .shr (.v (.int .u64 ((a + b : Nat) : Int))) (.v (.int .u64 1)) = some (.v (.int .u64 (mid : Int)))
  w6 : IntKind.i64.wrap (mid : Int) = (mid : Int)
  w7 : IntKind.i64.wrap ((mid : Int) + (m : Int)) = (nn : Int)
  w8 : IntKind.i64.wrap ((nn : Int) - 1) = (p : Int)
  w9 : IntKind.i64.wrap ((nn : Int) - (start : Int)) = (fin : Int)
  c5 : mid < fin ↔ start < m
  c6 : start < mid ↔ m < fin
theorem Nums.wraps {n x1 x2 y1 y2 a m b mid nn lo hi p start fin : Nat} (N : Nums n x1 x2 y1 y2 a m b mid nn lo hi p start fin) : Wraps x1 x2 y1 y2 a m b mid nn p start fin := by
  obtain ⟨hX1, hY1, hb, hmid, hnn, hp, hfin, hm, hbb, hbn, hst, hfi⟩ := N
  refine ⟨qfk hm (by omega), by omega, qfk hbb (by omega), by omega, qmg (by omega), qvj (by omega), qzh (a + b) mid hmid, qvx (by omega), ?_, qv5 hp (by omega), qfk hfin (by omega), by omega, by omega⟩
  rw [hnn]; exact qmg (by omega)
def qkz (a m b mid nn lo hi p start : Nat) (D : List Evt) : Prop := ∃ y, itB (exec (evL T) itL none qbh) (qr [0, 1, 2, 3, 4, 18, 19, 20, 21, 22] true 1) ⟨[(0, .sl 0 g 0 n cl), (1, (ii a)), (2, (ii m)), (3, (ii b)), (4, (.fn (.func qu) [] [])), (18, (ii mid)), (19, (ii nn)), (20, (ii lo)), (21, (ii hi)), (22, (ii p))], []⟩ [.row 6 ((D).map Evt.r) g] = some y ∧
      (y.1 = .exit 8 ∧ y.2.1.marks = [] ∧ y.2.2 = [.row 6 ((D).map Evt.r) g] ∧ Ev.look y.2.1.vars 0 = some (.sl 0 g 0 n cl) ∧ Ev.look y.2.1.vars 1 = some (ii a) ∧ Ev.look y.2.1.vars 2 = some (ii m) ∧ Ev.look y.2.1.vars 3 = some (ii b) ∧ Ev.look y.2.1.vars 4 = some (.fn (.func qu) [] []) ∧ Ev.look y.2.1.vars 18 = some (ii mid) ∧
        Ev.look y.2.1.vars 19 = some (ii nn) ∧ Ev.look y.2.1.vars 20 = some (ii start))
structure Steps (a m b mid start fin : Nat) (D D2 D3 D4 : List Evt) : Prop where
  s1 : start < m → m < fin → (evL T).call qbk [.sl 0 g 0 n cl, (ii start), (ii m), (ii fin), (.fn (.func qu) [] [])] [.row 6 ((D).map Evt.r) g] = some (.tup [], [.row 6 ((D2).map Evt.r) g])
  n1 : ¬ (start < m ∧ m < fin) → D2 = D
  s2 : a < start → start < mid → qbg g cl n a start mid D2 D3
  n2 : ¬ (a < start ∧ start < mid) → D3 = D2
  s3 : mid < fin → fin < b → qbg g cl n mid fin b D3 D4
  n3 : ¬ (mid < fin ∧ fin < b) → D4 = D3
theorem q0t (x1 x2 y1 y2 a m b mid nn lo hi p start fin : Nat) (D D2 D3 D4 : List Evt) (N : Nums n x1 x2 y1 y2 a m b mid nn lo hi p start fin) (g1 : mid < m) (g2 : nn = b + lo)
    (d1 : start < m) (d2 : m < fin) (d3 : a < start) (d4 : fin < b)
    (hf : qkz g cl n a m b mid nn lo mid p start D) (hS : Steps g cl n a m b mid start fin D D2 D3 D4) : qbg g cl n a m b D D4 := by
  obtain ⟨s1, n1, s2, n2, s3, n3⟩ := hS
  obtain ⟨⟨y, e, σ⟩, k1, k2, k3, k4, k5, k6, k7, k8, k9, k10, k11, k12⟩ := hf
  obtain ⟨w1, h1, w2, h2, w3, w4, w5, w6, w7, w8, w9, c5, c6⟩ := N.wraps
  simp only at k1 k2 k3 k4 k5 k6 k7 k8 k9 k10 k11 k12
  subst k2; subst k4
  unfold qbg at *
  rw [qs qi qf]
  have g4 : (m : Int) > (mid : Int) := Int.ofNat_lt.2 g1
  have g5 : IntKind.i64.wrap ((nn : Int) - (b : Int)) = (lo : Int) := qfk g2 (by have := N.hnn; have := N.hmid; have := N.hb; have := N.hbn; have := N.hm; have := N.hbb; omega)
  have e1 : (start : Int) < (m : Int) := Int.ofNat_lt.2 d1
  have e2 : (m : Int) < (fin : Int) := Int.ofNat_lt.2 d2
  have e3 : (a : Int) < (start : Int) := Int.ofNat_lt.2 d3
  have e5 : (mid : Int) < (fin : Int) := Int.ofNat_lt.2 (c5.2 d1)
  have e6 : (start : Int) < (mid : Int) := Int.ofNat_lt.2 (c6.2 d2)
  have e4 : (fin : Int) < (b : Int) := Int.ofNat_lt.2 d4
  have r1 := s1 d1 d2
  have r2 := s2 d3 (c6.2 d2)
  have r3 := s3 (c5.2 d1) d4
  simp only [qg, w1, w2, w3, w4, w5, w6, w7, w8, w9, h1, h2, g4, k1, k3, k5, k6, k7, k8, k9, k10, k11, k12, e1, e2, e3, e5, e6, g5, r1, r2, r3, e4, qac, qm, Ev.exec, qb, qe, qc, qd2, qag, Ev.evs, Ev.Opnd.ev, Ev.Env.get, Ev.Env.set, Ev.look, qn, qaj, qce, qal, qo, qav, ql, qae, Ev.kill, qad, qr, Ev.keep, qai, qy, qd, Ev.SObj.lo, qay, qbc, qb2, qdj, qj, ↓qq, ↓qak, ↓reduceIte, List.length_cons, List.length_nil, List.take_succ_cons, zfe, Nat.reduceAdd, Nat.reduceEqDiff, reduceCtorEq, decide_true, decide_false, zfc, zfa, and_self, zfd, Nat.lt_add_one, eq_self]
theorem q1g (x1 x2 y1 y2 a m b mid nn lo hi p start fin : Nat) (D D2 D3 D4 : List Evt) (N : Nums n x1 x2 y1 y2 a m b mid nn lo hi p start fin) (g1 : mid < m) (g2 : nn = b + lo)
    (d1 : start < m) (d2 : m < fin) (d3 : a < start) (d4 : ¬ fin < b)
    (hf : qkz g cl n a m b mid nn lo mid p start D) (hS : Steps g cl n a m b mid start fin D D2 D3 D4) : qbg g cl n a m b D D4 := by
  obtain ⟨s1, n1, s2, n2, s3, n3⟩ := hS
  obtain ⟨⟨y, e, σ⟩, k1, k2, k3, k4, k5, k6, k7, k8, k9, k10, k11, k12⟩ := hf
  obtain ⟨w1, h1, w2, h2, w3, w4, w5, w6, w7, w8, w9, c5, c6⟩ := N.wraps
  simp only at k1 k2 k3 k4 k5 k6 k7 k8 k9 k10 k11 k12
  subst k2; subst k4
  unfold qbg at *
  rw [qs qi qf]
  have g4 : (m : Int) > (mid : Int) := Int.ofNat_lt.2 g1
  have g5 : IntKind.i64.wrap ((nn : Int) - (b : Int)) = (lo : Int) := qfk g2 (by have := N.hnn; have := N.hmid; have := N.hb; have := N.hbn; have := N.hm; have := N.hbb; omega)
  have e1 : (start : Int) < (m : Int) := Int.ofNat_lt.2 d1
  have e2 : (m : Int) < (fin : Int) := Int.ofNat_lt.2 d2
  have e3 : (a : Int) < (start : Int) := Int.ofNat_lt.2 d3
  have e5 : (mid : Int) < (fin : Int) := Int.ofNat_lt.2 (c5.2 d1)
  have e6 : (start : Int) < (mid : Int) := Int.ofNat_lt.2 (c6.2 d2)
  have e4 : ¬ (fin : Int) < (b : Int) := fun h => d4 (Int.ofNat_lt.1 h)
  have r1 := s1 d1 d2
  have r2 := s2 d3 (c6.2 d2)
  have r3 := n3 (fun h => d4 h.2); subst r3
  simp only [qg, w1, w2, w3, w4, w5, w6, w7, w8, w9, h1, h2, g4, k1, k3, k5, k6, k7, k8, k9, k10, k11, k12, e1, e2, e3, e5, e6, g5, r1, r2, e4, qac, qm, Ev.exec, qb, qe, qc, qd2, qag, Ev.evs, Ev.Opnd.ev, Ev.Env.get, Ev.Env.set, Ev.look, qn, qaj, qce, qal, qo, qav, ql, qae, Ev.kill, qad, qr, Ev.keep, qai, qy, qd, Ev.SObj.lo, qay, qbc, qb2, qdj, qj, ↓qq, ↓qak, ↓reduceIte, List.length_cons, List.length_nil, List.take_succ_cons, zfe, Nat.reduceAdd, Nat.reduceEqDiff, reduceCtorEq, decide_true, decide_false, zfc, zfa, and_self, zfd, Nat.lt_add_one, eq_self]
theorem q0v (x1 x2 y1 y2 a m b mid nn lo hi p start fin : Nat) (D D2 D3 D4 : List Evt) (N : Nums n x1 x2 y1 y2 a m b mid nn lo hi p start fin) (g1 : mid < m) (g2 : nn = b + lo)
    (d1 : start < m) (d2 : m < fin) (d3 : ¬ a < start) (d4 : fin < b)
    (hf : qkz g cl n a m b mid nn lo mid p start D) (hS : Steps g cl n a m b mid start fin D D2 D3 D4) : qbg g cl n a m b D D4 := by
  obtain ⟨s1, n1, s2, n2, s3, n3⟩ := hS
  obtain ⟨⟨y, e, σ⟩, k1, k2, k3, k4, k5, k6, k7, k8, k9, k10, k11, k12⟩ := hf
  obtain ⟨w1, h1, w2, h2, w3, w4, w5, w6, w7, w8, w9, c5, c6⟩ := N.wraps
  simp only at k1 k2 k3 k4 k5 k6 k7 k8 k9 k10 k11 k12
  subst k2; subst k4
  unfold qbg at *
  rw [qs qi qf]
  have g4 : (m : Int) > (mid : Int) := Int.ofNat_lt.2 g1
  have g5 : IntKind.i64.wrap ((nn : Int) - (b : Int)) = (lo : Int) := qfk g2 (by have := N.hnn; have := N.hmid; have := N.hb; have := N.hbn; have := N.hm; have := N.hbb; omega)
  have e1 : (start : Int) < (m : Int) := Int.ofNat_lt.2 d1
  have e2 : (m : Int) < (fin : Int) := Int.ofNat_lt.2 d2
  have e3 : ¬ (a : Int) < (start : Int) := fun h => d3 (Int.ofNat_lt.1 h)
  have e5 : (mid : Int) < (fin : Int) := Int.ofNat_lt.2 (c5.2 d1)
  have e6 : (start : Int) < (mid : Int) := Int.ofNat_lt.2 (c6.2 d2)
  have e4 : (fin : Int) < (b : Int) := Int.ofNat_lt.2 d4
  have r1 := s1 d1 d2
  have r2 := n2 (fun h => d3 h.1); subst r2
  have r3 := s3 (c5.2 d1) d4
  simp only [qg, w1, w2, w3, w4, w5, w6, w7, w8, w9, h1, h2, g4, k1, k3, k5, k6, k7, k8, k9, k10, k11, k12, e1, e2, e3, e5, g5, r1, r3, e4, qac, qm, Ev.exec, qb, qe, qc, qd2, qag, Ev.evs, Ev.Opnd.ev, Ev.Env.get, Ev.Env.set, Ev.Env.unset, Ev.look, qn, qaj, qce, qal, qo, qav, ql, qae, Ev.kill, qad, qr, Ev.keep, qai, qy, qd, Ev.SObj.lo, qay, qbc, qb2, qdj, qj, ↓qq, ↓qak, ↓reduceIte, List.length_cons, List.length_nil, List.take_succ_cons, zfe, Nat.reduceAdd, Nat.reduceEqDiff, reduceCtorEq, decide_true, decide_false, zfc, zfa, and_self, zfd, Nat.lt_add_one, eq_self]
theorem qz8 (x1 x2 y1 y2 a m b mid nn lo hi p start fin : Nat) (D D2 D3 D4 : List Evt) (N : Nums n x1 x2 y1 y2 a m b mid nn lo hi p start fin) (g1 : mid < m) (g2 : nn = b + lo)
    (d1 : start < m) (d2 : m < fin) (d3 : ¬ a < start) (d4 : ¬ fin < b)
    (hf : qkz g cl n a m b mid nn lo mid p start D) (hS : Steps g cl n a m b mid start fin D D2 D3 D4) : qbg g cl n a m b D D4 := by
  obtain ⟨s1, n1, s2, n2, s3, n3⟩ := hS
  obtain ⟨⟨y, e, σ⟩, k1, k2, k3, k4, k5, k6, k7, k8, k9, k10, k11, k12⟩ := hf
  obtain ⟨w1, h1, w2, h2, w3, w4, w5, w6, w7, w8, w9, c5, c6⟩ := N.wraps
  simp only at k1 k2 k3 k4 k5 k6 k7 k8 k9 k10 k11 k12
  subst k2; subst k4
  unfold qbg at *
  rw [qs qi qf]
  have g4 : (m : Int) > (mid : Int) := Int.ofNat_lt.2 g1
  have g5 : IntKind.i64.wrap ((nn : Int) - (b : Int)) = (lo : Int) := qfk g2 (by have := N.hnn; have := N.hmid; have := N.hb; have := N.hbn; have := N.hm; have := N.hbb; omega)
  have e1 : (start : Int) < (m : Int) := Int.ofNat_lt.2 d1
  have e2 : (m : Int) < (fin : Int) := Int.ofNat_lt.2 d2
  have e3 : ¬ (a : Int) < (start : Int) := fun h => d3 (Int.ofNat_lt.1 h)
  have e5 : (mid : Int) < (fin : Int) := Int.ofNat_lt.2 (c5.2 d1)
  have e6 : (start : Int) < (mid : Int) := Int.ofNat_lt.2 (c6.2 d2)
  have e4 : ¬ (fin : Int) < (b : Int) := fun h => d4 (Int.ofNat_lt.1 h)
  have r1 := s1 d1 d2
  have r2 := n2 (fun h => d3 h.1); subst r2
  have r3 := n3 (fun h => d4 h.2); subst r3
  simp only [qg, w1, w2, w3, w4, w5, w6, w7, w8, w9, h1, h2, g4, k1, k3, k5, k6, k7, k8, k9, k10, k11, k12, e1, e2, e3, e5, g5, r1, e4, qac, qm, Ev.exec, qb, qe, qc, qd2, qag, Ev.evs, Ev.Opnd.ev, Ev.Env.get, Ev.Env.set, Ev.Env.unset, Ev.look, qn, qaj, qce, qal, qo, qav, ql, qae, Ev.kill, qad, qr, Ev.keep, qai, qy, qd, Ev.SObj.lo, qay, qbc, qb2, qdj, qj, ↓qq, ↓qak, ↓reduceIte, List.length_cons, List.length_nil, List.take_succ_cons, zfe, Nat.reduceAdd, Nat.reduceEqDiff, reduceCtorEq, decide_true, decide_false, zfc, zfa, and_self, zfd, Nat.lt_add_one, eq_self]
theorem qzm (x1 x2 y1 y2 a m b mid nn lo hi p start fin : Nat) (D D2 D3 D4 : List Evt) (N : Nums n x1 x2 y1 y2 a m b mid nn lo hi p start fin) (g1 : mid < m) (g2 : nn = b + lo)
    (d1 : start < m) (d2 : ¬ m < fin) (d3 : a < start) (d4 : fin < b)
    (hf : qkz g cl n a m b mid nn lo mid p start D) (hS : Steps g cl n a m b mid start fin D D2 D3 D4) : qbg g cl n a m b D D4 := by
  obtain ⟨s1, n1, s2, n2, s3, n3⟩ := hS
  obtain ⟨⟨y, e, σ⟩, k1, k2, k3, k4, k5, k6, k7, k8, k9, k10, k11, k12⟩ := hf
  obtain ⟨w1, h1, w2, h2, w3, w4, w5, w6, w7, w8, w9, c5, c6⟩ := N.wraps
  simp only at k1 k2 k3 k4 k5 k6 k7 k8 k9 k10 k11 k12
  subst k2; subst k4
  unfold qbg at *
  rw [qs qi qf]
  have g4 : (m : Int) > (mid : Int) := Int.ofNat_lt.2 g1
  have g5 : IntKind.i64.wrap ((nn : Int) - (b : Int)) = (lo : Int) := qfk g2 (by have := N.hnn; have := N.hmid; have := N.hb; have := N.hbn; have := N.hm; have := N.hbb; omega)
  have e1 : (start : Int) < (m : Int) := Int.ofNat_lt.2 d1
  have e2 : ¬ (m : Int) < (fin : Int) := fun h => d2 (Int.ofNat_lt.1 h)
  have e3 : (a : Int) < (start : Int) := Int.ofNat_lt.2 d3
  have e5 : (mid : Int) < (fin : Int) := Int.ofNat_lt.2 (c5.2 d1)
  have e6 : ¬ (start : Int) < (mid : Int) := fun h => d2 (c6.1 (Int.ofNat_lt.1 h))
  have e4 : (fin : Int) < (b : Int) := Int.ofNat_lt.2 d4
  have r1 := n1 (fun h => d2 h.2); subst r1
  have r2 := n2 (fun h => d2 (c6.1 h.2)); subst r2
  have r3 := s3 (c5.2 d1) d4
  simp only [qg, w1, w2, w3, w4, w5, w6, w7, w8, w9, h1, h2, g4, k1, k3, k5, k6, k7, k8, k9, k10, k11, k12, e1, e2, e3, e5, e6, g5, r3, e4, qac, qm, Ev.exec, qb, qe, qc, qd2, qag, Ev.evs, Ev.Opnd.ev, Ev.Env.get, Ev.Env.set, Ev.look, qn, qaj, qce, qal, qo, qav, ql, qae, Ev.kill, qad, qr, Ev.keep, qai, qy, qd, Ev.SObj.lo, qay, qbc, qb2, qdj, qj, ↓qq, ↓qak, ↓reduceIte, List.length_cons, List.length_nil, List.take_succ_cons, zfe, Nat.reduceAdd, Nat.reduceEqDiff, reduceCtorEq, decide_true, decide_false, zfc, zfa, and_self, zfd, Nat.lt_add_one, eq_self]
theorem q1c (x1 x2 y1 y2 a m b mid nn lo hi p start fin : Nat) (D D2 D3 D4 : List Evt) (N : Nums n x1 x2 y1 y2 a m b mid nn lo hi p start fin) (g1 : mid < m) (g2 : nn = b + lo)
    (d1 : start < m) (d2 : ¬ m < fin) (d3 : a < start) (d4 : ¬ fin < b)
    (hf : qkz g cl n a m b mid nn lo mid p start D) (hS : Steps g cl n a m b mid start fin D D2 D3 D4) : qbg g cl n a m b D D4 := by
  obtain ⟨s1, n1, s2, n2, s3, n3⟩ := hS
  obtain ⟨⟨y, e, σ⟩, k1, k2, k3, k4, k5, k6, k7, k8, k9, k10, k11, k12⟩ := hf
  obtain ⟨w1, h1, w2, h2, w3, w4, w5, w6, w7, w8, w9, c5, c6⟩ := N.wraps
  simp only at k1 k2 k3 k4 k5 k6 k7 k8 k9 k10 k11 k12
  subst k2; subst k4
  unfold qbg at *
  rw [qs qi qf]
  have g4 : (m : Int) > (mid : Int) := Int.ofNat_lt.2 g1
  have g5 : IntKind.i64.wrap ((nn : Int) - (b : Int)) = (lo : Int) := qfk g2 (by have := N.hnn; have := N.hmid; have := N.hb; have := N.hbn; have := N.hm; have := N.hbb; omega)
  have e1 : (start : Int) < (m : Int) := Int.ofNat_lt.2 d1
  have e2 : ¬ (m : Int) < (fin : Int) := fun h => d2 (Int.ofNat_lt.1 h)
  have e3 : (a : Int) < (start : Int) := Int.ofNat_lt.2 d3
  have e5 : (mid : Int) < (fin : Int) := Int.ofNat_lt.2 (c5.2 d1)
  have e6 : ¬ (start : Int) < (mid : Int) := fun h => d2 (c6.1 (Int.ofNat_lt.1 h))
  have e4 : ¬ (fin : Int) < (b : Int) := fun h => d4 (Int.ofNat_lt.1 h)
  have r1 := n1 (fun h => d2 h.2); subst r1
  have r2 := n2 (fun h => d2 (c6.1 h.2)); subst r2
  have r3 := n3 (fun h => d4 h.2); subst r3
  simp only [qg, w1, w2, w3, w4, w5, w6, w7, w8, w9, h1, h2, g4, k1, k3, k6, k7, k8, k10, k11, k12, e1, e2, e3, e5, e6, g5, e4, qac, qm, Ev.exec, qb, qe, qc, qag, Ev.Opnd.ev, Ev.Env.get, Ev.Env.set, Ev.look, qn, qaj, qce, qal, qo, qav, ql, qae, Ev.kill, qad, qr, Ev.keep, qai, qy, qd, Ev.SObj.lo, qay, qbc, qb2, qdj, qj, ↓qq, ↓qak, ↓reduceIte, List.length_cons, List.length_nil, List.take_succ_cons, zfe, Nat.reduceAdd, Nat.reduceEqDiff, reduceCtorEq, decide_true, decide_false, zfc, zfa, and_self, zfd, Nat.lt_add_one, eq_self]
theorem qzu (x1 x2 y1 y2 a m b mid nn lo hi p start fin : Nat) (D D2 D3 D4 : List Evt) (N : Nums n x1 x2 y1 y2 a m b mid nn lo hi p start fin) (g1 : mid < m) (g2 : nn = b + lo)
    (d1 : start < m) (d2 : ¬ m < fin) (d3 : ¬ a < start) (d4 : fin < b)
    (hf : qkz g cl n a m b mid nn lo mid p start D) (hS : Steps g cl n a m b mid start fin D D2 D3 D4) : qbg g cl n a m b D D4 := by
  obtain ⟨s1, n1, s2, n2, s3, n3⟩ := hS
  obtain ⟨⟨y, e, σ⟩, k1, k2, k3, k4, k5, k6, k7, k8, k9, k10, k11, k12⟩ := hf
  obtain ⟨w1, h1, w2, h2, w3, w4, w5, w6, w7, w8, w9, c5, c6⟩ := N.wraps
  simp only at k1 k2 k3 k4 k5 k6 k7 k8 k9 k10 k11 k12
  subst k2; subst k4
  unfold qbg at *
  rw [qs qi qf]
  have g4 : (m : Int) > (mid : Int) := Int.ofNat_lt.2 g1
  have g5 : IntKind.i64.wrap ((nn : Int) - (b : Int)) = (lo : Int) := qfk g2 (by have := N.hnn; have := N.hmid; have := N.hb; have := N.hbn; have := N.hm; have := N.hbb; omega)
  have e1 : (start : Int) < (m : Int) := Int.ofNat_lt.2 d1
  have e2 : ¬ (m : Int) < (fin : Int) := fun h => d2 (Int.ofNat_lt.1 h)
  have e3 : ¬ (a : Int) < (start : Int) := fun h => d3 (Int.ofNat_lt.1 h)
  have e5 : (mid : Int) < (fin : Int) := Int.ofNat_lt.2 (c5.2 d1)
  have e6 : ¬ (start : Int) < (mid : Int) := fun h => d2 (c6.1 (Int.ofNat_lt.1 h))
  have e4 : (fin : Int) < (b : Int) := Int.ofNat_lt.2 d4
  have r1 := n1 (fun h => d2 h.2); subst r1
  have r2 := n2 (fun h => d3 h.1); subst r2
  have r3 := s3 (c5.2 d1) d4
  simp only [qg, w1, w2, w3, w4, w5, w6, w7, w8, w9, h1, h2, g4, k1, k3, k5, k6, k7, k8, k9, k10, k11, k12, e1, e2, e3, e5, g5, r3, e4, qac, qm, Ev.exec, qb, qe, qc, qd2, qag, Ev.evs, Ev.Opnd.ev, Ev.Env.get, Ev.Env.set, Ev.Env.unset, Ev.look, qn, qaj, qce, qal, qo, qav, ql, qae, Ev.kill, qad, qr, Ev.keep, qai, qy, qd, Ev.SObj.lo, qay, qbc, qb2, qdj, qj, ↓qq, ↓qak, ↓reduceIte, List.length_cons, List.length_nil, List.take_succ_cons, zfe, Nat.reduceAdd, Nat.reduceEqDiff, reduceCtorEq, decide_true, decide_false, zfc, zfa, and_self, zfd, Nat.lt_add_one, eq_self]
theorem q0g (x1 x2 y1 y2 a m b mid nn lo hi p start fin : Nat) (D D2 D3 D4 : List Evt) (N : Nums n x1 x2 y1 y2 a m b mid nn lo hi p start fin) (g1 : mid < m) (g2 : nn = b + lo)
    (d1 : start < m) (d2 : ¬ m < fin) (d3 : ¬ a < start) (d4 : ¬ fin < b)
    (hf : qkz g cl n a m b mid nn lo mid p start D) (hS : Steps g cl n a m b mid start fin D D2 D3 D4) : qbg g cl n a m b D D4 := by
  obtain ⟨s1, n1, s2, n2, s3, n3⟩ := hS
  obtain ⟨⟨y, e, σ⟩, k1, k2, k3, k4, k5, k6, k7, k8, k9, k10, k11, k12⟩ := hf
  obtain ⟨w1, h1, w2, h2, w3, w4, w5, w6, w7, w8, w9, c5, c6⟩ := N.wraps
  simp only at k1 k2 k3 k4 k5 k6 k7 k8 k9 k10 k11 k12
  subst k2; subst k4
  unfold qbg at *
  rw [qs qi qf]
  have g4 : (m : Int) > (mid : Int) := Int.ofNat_lt.2 g1
  have g5 : IntKind.i64.wrap ((nn : Int) - (b : Int)) = (lo : Int) := qfk g2 (by have := N.hnn; have := N.hmid; have := N.hb; have := N.hbn; have := N.hm; have := N.hbb; omega)
  have e1 : (start : Int) < (m : Int) := Int.ofNat_lt.2 d1
  have e2 : ¬ (m : Int) < (fin : Int) := fun h => d2 (Int.ofNat_lt.1 h)
  have e3 : ¬ (a : Int) < (start : Int) := fun h => d3 (Int.ofNat_lt.1 h)
  have e5 : (mid : Int) < (fin : Int) := Int.ofNat_lt.2 (c5.2 d1)
  have e6 : ¬ (start : Int) < (mid : Int) := fun h => d2 (c6.1 (Int.ofNat_lt.1 h))
  have e4 : ¬ (fin : Int) < (b : Int) := fun h => d4 (Int.ofNat_lt.1 h)
  have r1 := n1 (fun h => d2 h.2); subst r1
  have r2 := n2 (fun h => d3 h.1); subst r2
  have r3 := n3 (fun h => d4 h.2); subst r3
  simp only [qg, w1, w2, w3, w4, w5, w6, w7, w8, w9, h1, h2, g4, k1, k3, k6, k7, k8, k10, k11, k12, e1, e2, e3, e5, g5, e4, qac, qm, Ev.exec, qb, qe, qc, qag, Ev.Opnd.ev, Ev.Env.get, Ev.Env.set, Ev.Env.unset, Ev.look, qn, qaj, qce, qal, qo, qav, ql, qae, Ev.kill, qad, qr, Ev.keep, qai, qy, qd, Ev.SObj.lo, qay, qbc, qb2, qdj, qj, ↓qq, ↓qak, ↓reduceIte, List.length_cons, List.length_nil, List.take_succ_cons, zfe, Nat.reduceAdd, Nat.reduceEqDiff, reduceCtorEq, decide_true, decide_false, zfc, zfa, and_self, zfd, Nat.lt_add_one, eq_self]
theorem q12 (x1 x2 y1 y2 a m b mid nn lo hi p start fin : Nat) (D D2 D3 D4 : List Evt) (N : Nums n x1 x2 y1 y2 a m b mid nn lo hi p start fin) (g1 : mid < m) (g2 : nn = b + lo)
    (d1 : ¬ start < m) (d2 : m < fin) (d3 : a < start) (d4 : fin < b)
    (hf : qkz g cl n a m b mid nn lo mid p start D) (hS : Steps g cl n a m b mid start fin D D2 D3 D4) : qbg g cl n a m b D D4 := by
  obtain ⟨s1, n1, s2, n2, s3, n3⟩ := hS
  obtain ⟨⟨y, e, σ⟩, k1, k2, k3, k4, k5, k6, k7, k8, k9, k10, k11, k12⟩ := hf
  obtain ⟨w1, h1, w2, h2, w3, w4, w5, w6, w7, w8, w9, c5, c6⟩ := N.wraps
  simp only at k1 k2 k3 k4 k5 k6 k7 k8 k9 k10 k11 k12
  subst k2; subst k4
  unfold qbg at *
  rw [qs qi qf]
  have g4 : (m : Int) > (mid : Int) := Int.ofNat_lt.2 g1
  have g5 : IntKind.i64.wrap ((nn : Int) - (b : Int)) = (lo : Int) := qfk g2 (by have := N.hnn; have := N.hmid; have := N.hb; have := N.hbn; have := N.hm; have := N.hbb; omega)
  have e1 : ¬ (start : Int) < (m : Int) := fun h => d1 (Int.ofNat_lt.1 h)
  have e2 : (m : Int) < (fin : Int) := Int.ofNat_lt.2 d2
  have e3 : (a : Int) < (start : Int) := Int.ofNat_lt.2 d3
  have e5 : ¬ (mid : Int) < (fin : Int) := fun h => d1 (c5.1 (Int.ofNat_lt.1 h))
  have e6 : (start : Int) < (mid : Int) := Int.ofNat_lt.2 (c6.2 d2)
  have e4 : (fin : Int) < (b : Int) := Int.ofNat_lt.2 d4
  have r1 := n1 (fun h => d1 h.1); subst r1
  have r2 := s2 d3 (c6.2 d2)
  have r3 := n3 (fun h => d1 (c5.1 h.1)); subst r3
  simp only [qg, w1, w2, w3, w4, w5, w6, w7, w8, w9, h1, h2, g4, k1, k3, k5, k6, k7, k9, k10, k11, k12, e1, e3, e5, e6, g5, r2, qac, qm, Ev.exec, qb, qe, qc, qd2, qag, Ev.evs, Ev.Opnd.ev, Ev.Env.get, Ev.Env.set, Ev.Env.unset, Ev.look, qn, qaj, qce, qal, qo, qav, ql, qae, Ev.kill, qad, qr, Ev.keep, qai, qy, qd, Ev.SObj.lo, qay, qbc, qb2, qdj, qj, ↓qq, ↓qak, ↓reduceIte, List.length_cons, List.length_nil, List.take_succ_cons, zfe, Nat.reduceAdd, Nat.reduceEqDiff, reduceCtorEq, decide_true, decide_false, zfc, zfa, and_self, zfd, Nat.lt_add_one, eq_self]
theorem q1m (x1 x2 y1 y2 a m b mid nn lo hi p start fin : Nat) (D D2 D3 D4 : List Evt) (N : Nums n x1 x2 y1 y2 a m b mid nn lo hi p start fin) (g1 : mid < m) (g2 : nn = b + lo)
    (d1 : ¬ start < m) (d2 : m < fin) (d3 : a < start) (d4 : ¬ fin < b)
    (hf : qkz g cl n a m b mid nn lo mid p start D) (hS : Steps g cl n a m b mid start fin D D2 D3 D4) : qbg g cl n a m b D D4 := by
  obtain ⟨s1, n1, s2, n2, s3, n3⟩ := hS
  obtain ⟨⟨y, e, σ⟩, k1, k2, k3, k4, k5, k6, k7, k8, k9, k10, k11, k12⟩ := hf
  obtain ⟨w1, h1, w2, h2, w3, w4, w5, w6, w7, w8, w9, c5, c6⟩ := N.wraps
  simp only at k1 k2 k3 k4 k5 k6 k7 k8 k9 k10 k11 k12
  subst k2; subst k4
  unfold qbg at *
  rw [qs qi qf]
  have g4 : (m : Int) > (mid : Int) := Int.ofNat_lt.2 g1
  have g5 : IntKind.i64.wrap ((nn : Int) - (b : Int)) = (lo : Int) := qfk g2 (by have := N.hnn; have := N.hmid; have := N.hb; have := N.hbn; have := N.hm; have := N.hbb; omega)
  have e1 : ¬ (start : Int) < (m : Int) := fun h => d1 (Int.ofNat_lt.1 h)
  have e2 : (m : Int) < (fin : Int) := Int.ofNat_lt.2 d2
  have e3 : (a : Int) < (start : Int) := Int.ofNat_lt.2 d3
  have e5 : ¬ (mid : Int) < (fin : Int) := fun h => d1 (c5.1 (Int.ofNat_lt.1 h))
  have e6 : (start : Int) < (mid : Int) := Int.ofNat_lt.2 (c6.2 d2)
  have e4 : ¬ (fin : Int) < (b : Int) := fun h => d4 (Int.ofNat_lt.1 h)
  have r1 := n1 (fun h => d1 h.1); subst r1
  have r2 := s2 d3 (c6.2 d2)
  have r3 := n3 (fun h => d1 (c5.1 h.1)); subst r3
  simp only [qg, w1, w2, w3, w4, w5, w6, w7, w8, w9, h1, h2, g4, k1, k3, k5, k6, k7, k9, k10, k11, k12, e1, e3, e5, e6, g5, r2, qac, qm, Ev.exec, qb, qe, qc, qd2, qag, Ev.evs, Ev.Opnd.ev, Ev.Env.get, Ev.Env.set, Ev.Env.unset, Ev.look, qn, qaj, qce, qal, qo, qav, ql, qae, Ev.kill, qad, qr, Ev.keep, qai, qy, qd, Ev.SObj.lo, qay, qbc, qb2, qdj, qj, ↓qq, ↓qak, ↓reduceIte, List.length_cons, List.length_nil, List.take_succ_cons, zfe, Nat.reduceAdd, Nat.reduceEqDiff, reduceCtorEq, decide_true, decide_false, zfc, zfa, and_self, zfd, Nat.lt_add_one, eq_self]
theorem q1n (x1 x2 y1 y2 a m b mid nn lo hi p start fin : Nat) (D D2 D3 D4 : List Evt) (N : Nums n x1 x2 y1 y2 a m b mid nn lo hi p start fin) (g1 : mid < m) (g2 : nn = b + lo)
    (d1 : ¬ start < m) (d2 : m < fin) (d3 : ¬ a < start) (d4 : fin < b)
    (hf : qkz g cl n a m b mid nn lo mid p start D) (hS : Steps g cl n a m b mid start fin D D2 D3 D4) : qbg g cl n a m b D D4 := by
  obtain ⟨s1, n1, s2, n2, s3, n3⟩ := hS
  obtain ⟨⟨y, e, σ⟩, k1, k2, k3, k4, k5, k6, k7, k8, k9, k10, k11, k12⟩ := hf
  obtain ⟨w1, h1, w2, h2, w3, w4, w5, w6, w7, w8, w9, c5, c6⟩ := N.wraps
  simp only at k1 k2 k3 k4 k5 k6 k7 k8 k9 k10 k11 k12
  subst k2; subst k4
  unfold qbg at *
  rw [qs qi qf]
  have g4 : (m : Int) > (mid : Int) := Int.ofNat_lt.2 g1
  have g5 : IntKind.i64.wrap ((nn : Int) - (b : Int)) = (lo : Int) := qfk g2 (by have := N.hnn; have := N.hmid; have := N.hb; have := N.hbn; have := N.hm; have := N.hbb; omega)
  have e1 : ¬ (start : Int) < (m : Int) := fun h => d1 (Int.ofNat_lt.1 h)
  have e2 : (m : Int) < (fin : Int) := Int.ofNat_lt.2 d2
  have e3 : ¬ (a : Int) < (start : Int) := fun h => d3 (Int.ofNat_lt.1 h)
  have e5 : ¬ (mid : Int) < (fin : Int) := fun h => d1 (c5.1 (Int.ofNat_lt.1 h))
  have e6 : (start : Int) < (mid : Int) := Int.ofNat_lt.2 (c6.2 d2)
  have e4 : (fin : Int) < (b : Int) := Int.ofNat_lt.2 d4
  have r1 := n1 (fun h => d1 h.1); subst r1
  have r2 := n2 (fun h => d3 h.1); subst r2
  have r3 := n3 (fun h => d1 (c5.1 h.1)); subst r3
  simp only [qg, w1, w2, w3, w4, w5, w6, w7, w8, w9, h1, h2, g4, k1, k3, k6, k7, k10, k11, k12, e1, e3, e5, g5, qac, qm, Ev.exec, qb, qe, qc, qag, Ev.Opnd.ev, Ev.Env.get, Ev.Env.set, Ev.Env.unset, Ev.look, qn, qaj, qce, qal, qo, qav, ql, qae, Ev.kill, qad, qr, Ev.keep, qai, qy, qd, Ev.SObj.lo, qay, qbc, qb2, qdj, qj, ↓qq, ↓qak, ↓reduceIte, List.length_cons, List.length_nil, List.take_succ_cons, zfe, Nat.reduceAdd, Nat.reduceEqDiff, reduceCtorEq, decide_true, decide_false, zfc, zfa, and_self, zfd, Nat.lt_add_one, eq_self]
theorem q0p (x1 x2 y1 y2 a m b mid nn lo hi p start fin : Nat) (D D2 D3 D4 : List Evt) (N : Nums n x1 x2 y1 y2 a m b mid nn lo hi p start fin) (g1 : mid < m) (g2 : nn = b + lo)
    (d1 : ¬ start < m) (d2 : m < fin) (d3 : ¬ a < start) (d4 : ¬ fin < b)
    (hf : qkz g cl n a m b mid nn lo mid p start D) (hS : Steps g cl n a m b mid start fin D D2 D3 D4) : qbg g cl n a m b D D4 := by
  obtain ⟨s1, n1, s2, n2, s3, n3⟩ := hS
  obtain ⟨⟨y, e, σ⟩, k1, k2, k3, k4, k5, k6, k7, k8, k9, k10, k11, k12⟩ := hf
  obtain ⟨w1, h1, w2, h2, w3, w4, w5, w6, w7, w8, w9, c5, c6⟩ := N.wraps
  simp only at k1 k2 k3 k4 k5 k6 k7 k8 k9 k10 k11 k12
  subst k2; subst k4
  unfold qbg at *
  rw [qs qi qf]
  have g4 : (m : Int) > (mid : Int) := Int.ofNat_lt.2 g1
  have g5 : IntKind.i64.wrap ((nn : Int) - (b : Int)) = (lo : Int) := qfk g2 (by have := N.hnn; have := N.hmid; have := N.hb; have := N.hbn; have := N.hm; have := N.hbb; omega)
  have e1 : ¬ (start : Int) < (m : Int) := fun h => d1 (Int.ofNat_lt.1 h)
  have e2 : (m : Int) < (fin : Int) := Int.ofNat_lt.2 d2
  have e3 : ¬ (a : Int) < (start : Int) := fun h => d3 (Int.ofNat_lt.1 h)
  have e5 : ¬ (mid : Int) < (fin : Int) := fun h => d1 (c5.1 (Int.ofNat_lt.1 h))
  have e6 : (start : Int) < (mid : Int) := Int.ofNat_lt.2 (c6.2 d2)
  have e4 : ¬ (fin : Int) < (b : Int) := fun h => d4 (Int.ofNat_lt.1 h)
  have r1 := n1 (fun h => d1 h.1); subst r1
  have r2 := n2 (fun h => d3 h.1); subst r2
  have r3 := n3 (fun h => d1 (c5.1 h.1)); subst r3
  simp only [qg, w1, w2, w3, w4, w5, w6, w7, w8, w9, h1, h2, g4, k1, k3, k6, k7, k10, k11, k12, e1, e3, e5, g5, qac, qm, Ev.exec, qb, qe, qc, qag, Ev.Opnd.ev, Ev.Env.get, Ev.Env.set, Ev.Env.unset, Ev.look, qn, qaj, qce, qal, qo, qav, ql, qae, Ev.kill, qad, qr, Ev.keep, qai, qy, qd, Ev.SObj.lo, qay, qbc, qb2, qdj, qj, ↓qq, ↓qak, ↓reduceIte, List.length_cons, List.length_nil, List.take_succ_cons, zfe, Nat.reduceAdd, Nat.reduceEqDiff, reduceCtorEq, decide_true, decide_false, zfc, zfa, and_self, zfd, Nat.lt_add_one, eq_self]
theorem q0f (x1 x2 y1 y2 a m b mid nn lo hi p start fin : Nat) (D D2 D3 D4 : List Evt) (N : Nums n x1 x2 y1 y2 a m b mid nn lo hi p start fin) (g1 : mid < m) (g2 : nn = b + lo)
    (d1 : ¬ start < m) (d2 : ¬ m < fin) (d3 : a < start) (d4 : fin < b)
    (hf : qkz g cl n a m b mid nn lo mid p start D) (hS : Steps g cl n a m b mid start fin D D2 D3 D4) : qbg g cl n a m b D D4 := by
  obtain ⟨s1, n1, s2, n2, s3, n3⟩ := hS
  obtain ⟨⟨y, e, σ⟩, k1, k2, k3, k4, k5, k6, k7, k8, k9, k10, k11, k12⟩ := hf
  obtain ⟨w1, h1, w2, h2, w3, w4, w5, w6, w7, w8, w9, c5, c6⟩ := N.wraps
  simp only at k1 k2 k3 k4 k5 k6 k7 k8 k9 k10 k11 k12
  subst k2; subst k4
  unfold qbg at *
  rw [qs qi qf]
  have g4 : (m : Int) > (mid : Int) := Int.ofNat_lt.2 g1
  have g5 : IntKind.i64.wrap ((nn : Int) - (b : Int)) = (lo : Int) := qfk g2 (by have := N.hnn; have := N.hmid; have := N.hb; have := N.hbn; have := N.hm; have := N.hbb; omega)
  have e1 : ¬ (start : Int) < (m : Int) := fun h => d1 (Int.ofNat_lt.1 h)
  have e2 : ¬ (m : Int) < (fin : Int) := fun h => d2 (Int.ofNat_lt.1 h)
  have e3 : (a : Int) < (start : Int) := Int.ofNat_lt.2 d3
  have e5 : ¬ (mid : Int) < (fin : Int) := fun h => d1 (c5.1 (Int.ofNat_lt.1 h))
  have e6 : ¬ (start : Int) < (mid : Int) := fun h => d2 (c6.1 (Int.ofNat_lt.1 h))
  have e4 : (fin : Int) < (b : Int) := Int.ofNat_lt.2 d4
  have r1 := n1 (fun h => d1 h.1); subst r1
  have r2 := n2 (fun h => d2 (c6.1 h.2)); subst r2
  have r3 := n3 (fun h => d1 (c5.1 h.1)); subst r3
  simp only [qg, w1, w2, w3, w4, w5, w6, w7, w8, w9, h1, h2, g4, k1, k3, k6, k7, k10, k11, k12, e1, e3, e5, e6, g5, qac, qm, Ev.exec, qb, qe, qc, qag, Ev.Opnd.ev, Ev.Env.get, Ev.Env.set, Ev.Env.unset, Ev.look, qn, qaj, qce, qal, qo, qav, ql, qae, Ev.kill, qad, qr, Ev.keep, qai, qy, qd, Ev.SObj.lo, qay, qbc, qb2, qdj, qj, ↓qq, ↓qak, ↓reduceIte, List.length_cons, List.length_nil, List.take_succ_cons, zfe, Nat.reduceAdd, Nat.reduceEqDiff, reduceCtorEq, decide_true, decide_false, zfc, zfa, and_self, zfd, Nat.lt_add_one, eq_self]
theorem q1a (x1 x2 y1 y2 a m b mid nn lo hi p start fin : Nat) (D D2 D3 D4 : List Evt) (N : Nums n x1 x2 y1 y2 a m b mid nn lo hi p start fin) (g1 : mid < m) (g2 : nn = b + lo)
    (d1 : ¬ start < m) (d2 : ¬ m < fin) (d3 : a < start) (d4 : ¬ fin < b)
    (hf : qkz g cl n a m b mid nn lo mid p start D) (hS : Steps g cl n a m b mid start fin D D2 D3 D4) : qbg g cl n a m b D D4 := by
  obtain ⟨s1, n1, s2, n2, s3, n3⟩ := hS
  obtain ⟨⟨y, e, σ⟩, k1, k2, k3, k4, k5, k6, k7, k8, k9, k10, k11, k12⟩ := hf
  obtain ⟨w1, h1, w2, h2, w3, w4, w5, w6, w7, w8, w9, c5, c6⟩ := N.wraps
  simp only at k1 k2 k3 k4 k5 k6 k7 k8 k9 k10 k11 k12
  subst k2; subst k4
  unfold qbg at *
  rw [qs qi qf]
  have g4 : (m : Int) > (mid : Int) := Int.ofNat_lt.2 g1
  have g5 : IntKind.i64.wrap ((nn : Int) - (b : Int)) = (lo : Int) := qfk g2 (by have := N.hnn; have := N.hmid; have := N.hb; have := N.hbn; have := N.hm; have := N.hbb; omega)
  have e1 : ¬ (start : Int) < (m : Int) := fun h => d1 (Int.ofNat_lt.1 h)
  have e2 : ¬ (m : Int) < (fin : Int) := fun h => d2 (Int.ofNat_lt.1 h)
  have e3 : (a : Int) < (start : Int) := Int.ofNat_lt.2 d3
  have e5 : ¬ (mid : Int) < (fin : Int) := fun h => d1 (c5.1 (Int.ofNat_lt.1 h))
  have e6 : ¬ (start : Int) < (mid : Int) := fun h => d2 (c6.1 (Int.ofNat_lt.1 h))
  have e4 : ¬ (fin : Int) < (b : Int) := fun h => d4 (Int.ofNat_lt.1 h)
  have r1 := n1 (fun h => d1 h.1); subst r1
  have r2 := n2 (fun h => d2 (c6.1 h.2)); subst r2
  have r3 := n3 (fun h => d1 (c5.1 h.1)); subst r3
  simp only [qg, w1, w2, w3, w4, w5, w6, w7, w8, w9, h1, h2, g4, k1, k3, k6, k7, k10, k11, k12, e1, e3, e5, e6, g5, qac, qm, Ev.exec, qb, qe, qc, qag, Ev.Opnd.ev, Ev.Env.get, Ev.Env.set, Ev.Env.unset, Ev.look, qn, qaj, qce, qal, qo, qav, ql, qae, Ev.kill, qad, qr, Ev.keep, qai, qy, qd, Ev.SObj.lo, qay, qbc, qb2, qdj, qj, ↓qq, ↓qak, ↓reduceIte, List.length_cons, List.length_nil, List.take_succ_cons, zfe, Nat.reduceAdd, Nat.reduceEqDiff, reduceCtorEq, decide_true, decide_false, zfc, zfa, and_self, zfd, Nat.lt_add_one, eq_self]
theorem q0n (x1 x2 y1 y2 a m b mid nn lo hi p start fin : Nat) (D D2 D3 D4 : List Evt) (N : Nums n x1 x2 y1 y2 a m b mid nn lo hi p start fin) (g1 : mid < m) (g2 : nn = b + lo)
    (d1 : ¬ start < m) (d2 : ¬ m < fin) (d3 : ¬ a < start) (d4 : fin < b)
    (hf : qkz g cl n a m b mid nn lo mid p start D) (hS : Steps g cl n a m b mid start fin D D2 D3 D4) : qbg g cl n a m b D D4 := by
  obtain ⟨s1, n1, s2, n2, s3, n3⟩ := hS
  obtain ⟨⟨y, e, σ⟩, k1, k2, k3, k4, k5, k6, k7, k8, k9, k10, k11, k12⟩ := hf
  obtain ⟨w1, h1, w2, h2, w3, w4, w5, w6, w7, w8, w9, c5, c6⟩ := N.wraps
  simp only at k1 k2 k3 k4 k5 k6 k7 k8 k9 k10 k11 k12
  subst k2; subst k4
  unfold qbg at *
  rw [qs qi qf]
  have g4 : (m : Int) > (mid : Int) := Int.ofNat_lt.2 g1
  have g5 : IntKind.i64.wrap ((nn : Int) - (b : Int)) = (lo : Int) := qfk g2 (by have := N.hnn; have := N.hmid; have := N.hb; have := N.hbn; have := N.hm; have := N.hbb; omega)
  have e1 : ¬ (start : Int) < (m : Int) := fun h => d1 (Int.ofNat_lt.1 h)
  have e2 : ¬ (m : Int) < (fin : Int) := fun h => d2 (Int.ofNat_lt.1 h)
  have e3 : ¬ (a : Int) < (start : Int) := fun h => d3 (Int.ofNat_lt.1 h)
  have e5 : ¬ (mid : Int) < (fin : Int) := fun h => d1 (c5.1 (Int.ofNat_lt.1 h))
  have e6 : ¬ (start : Int) < (mid : Int) := fun h => d2 (c6.1 (Int.ofNat_lt.1 h))
  have e4 : (fin : Int) < (b : Int) := Int.ofNat_lt.2 d4
  have r1 := n1 (fun h => d1 h.1); subst r1
  have r2 := n2 (fun h => d3 h.1); subst r2
  have r3 := n3 (fun h => d1 (c5.1 h.1)); subst r3
  simp only [qg, w1, w2, w3, w4, w5, w6, w7, w8, w9, h1, h2, g4, k1, k3, k6, k7, k10, k11, k12, e1, e3, e5, g5, qac, qm, Ev.exec, qb, qe, qc, qag, Ev.Opnd.ev, Ev.Env.get, Ev.Env.set, Ev.Env.unset, Ev.look, qn, qaj, qce, qal, qo, qav, ql, qae, Ev.kill, qad, qr, Ev.keep, qai, qy, qd, Ev.SObj.lo, qay, qbc, qb2, qdj, qj, ↓qq, ↓qak, ↓reduceIte, List.length_cons, List.length_nil, List.take_succ_cons, zfe, Nat.reduceAdd, Nat.reduceEqDiff, reduceCtorEq, decide_true, decide_false, zfc, zfa, and_self, zfd, Nat.lt_add_one, eq_self]
theorem q07 (x1 x2 y1 y2 a m b mid nn lo hi p start fin : Nat) (D D2 D3 D4 : List Evt) (N : Nums n x1 x2 y1 y2 a m b mid nn lo hi p start fin) (g1 : mid < m) (g2 : nn = b + lo)
    (d1 : ¬ start < m) (d2 : ¬ m < fin) (d3 : ¬ a < start) (d4 : ¬ fin < b)
    (hf : qkz g cl n a m b mid nn lo mid p start D) (hS : Steps g cl n a m b mid start fin D D2 D3 D4) : qbg g cl n a m b D D4 := by
  obtain ⟨s1, n1, s2, n2, s3, n3⟩ := hS
  obtain ⟨⟨y, e, σ⟩, k1, k2, k3, k4, k5, k6, k7, k8, k9, k10, k11, k12⟩ := hf
  obtain ⟨w1, h1, w2, h2, w3, w4, w5, w6, w7, w8, w9, c5, c6⟩ := N.wraps
  simp only at k1 k2 k3 k4 k5 k6 k7 k8 k9 k10 k11 k12
  subst k2; subst k4
  unfold qbg at *
  rw [qs qi qf]
  have g4 : (m : Int) > (mid : Int) := Int.ofNat_lt.2 g1
  have g5 : IntKind.i64.wrap ((nn : Int) - (b : Int)) = (lo : Int) := qfk g2 (by have := N.hnn; have := N.hmid; have := N.hb; have := N.hbn; have := N.hm; have := N.hbb; omega)
  have e1 : ¬ (start : Int) < (m : Int) := fun h => d1 (Int.ofNat_lt.1 h)
  have e2 : ¬ (m : Int) < (fin : Int) := fun h => d2 (Int.ofNat_lt.1 h)
  have e3 : ¬ (a : Int) < (start : Int) := fun h => d3 (Int.ofNat_lt.1 h)
  have e5 : ¬ (mid : Int) < (fin : Int) := fun h => d1 (c5.1 (Int.ofNat_lt.1 h))
  have e6 : ¬ (start : Int) < (mid : Int) := fun h => d2 (c6.1 (Int.ofNat_lt.1 h))
  have e4 : ¬ (fin : Int) < (b : Int) := fun h => d4 (Int.ofNat_lt.1 h)
  have r1 := n1 (fun h => d1 h.1); subst r1
  have r2 := n2 (fun h => d3 h.1); subst r2
  have r3 := n3 (fun h => d1 (c5.1 h.1)); subst r3
  simp only [qg, w1, w2, w3, w4, w5, w6, w7, w8, w9, h1, h2, g4, k1, k3, k6, k7, k10, k11, k12, e1, e3, e5, g5, qac, qm, Ev.exec, qb, qe, qc, qag, Ev.Opnd.ev, Ev.Env.get, Ev.Env.set, Ev.Env.unset, Ev.look, qn, qaj, qce, qal, qo, qav, ql, qae, Ev.kill, qad, qr, Ev.keep, qai, qy, qd, Ev.SObj.lo, qay, qbc, qb2, qdj, qj, ↓qq, ↓qak, ↓reduceIte, List.length_cons, List.length_nil, List.take_succ_cons, zfe, Nat.reduceAdd, Nat.reduceEqDiff, reduceCtorEq, decide_true, decide_false, zfc, zfa, and_self, zfd, Nat.lt_add_one, eq_self]
theorem q1u (x1 x2 y1 y2 a m b mid nn lo hi p start fin : Nat) (D D2 D3 D4 : List Evt) (N : Nums n x1 x2 y1 y2 a m b mid nn lo hi p start fin) (g1 : ¬ mid < m)
    (d1 : start < m) (d2 : m < fin) (d3 : a < start) (d4 : fin < b)
    (hf : qkz g cl n a m b mid nn a m p start D) (hS : Steps g cl n a m b mid start fin D D2 D3 D4) : qbg g cl n a m b D D4 := by
  obtain ⟨s1, n1, s2, n2, s3, n3⟩ := hS
  obtain ⟨⟨y, e, σ⟩, k1, k2, k3, k4, k5, k6, k7, k8, k9, k10, k11, k12⟩ := hf
  obtain ⟨w1, h1, w2, h2, w3, w4, w5, w6, w7, w8, w9, c5, c6⟩ := N.wraps
  simp only at k1 k2 k3 k4 k5 k6 k7 k8 k9 k10 k11 k12
  subst k2; subst k4
  unfold qbg at *
  rw [qs qi qf]
  have g4 : ¬ (m : Int) > (mid : Int) := fun h => g1 (Int.ofNat_lt.1 h)
  have e1 : (start : Int) < (m : Int) := Int.ofNat_lt.2 d1
  have e2 : (m : Int) < (fin : Int) := Int.ofNat_lt.2 d2
  have e3 : (a : Int) < (start : Int) := Int.ofNat_lt.2 d3
  have e5 : (mid : Int) < (fin : Int) := Int.ofNat_lt.2 (c5.2 d1)
  have e6 : (start : Int) < (mid : Int) := Int.ofNat_lt.2 (c6.2 d2)
  have e4 : (fin : Int) < (b : Int) := Int.ofNat_lt.2 d4
  have r1 := s1 d1 d2
  have r2 := s2 d3 (c6.2 d2)
  have r3 := s3 (c5.2 d1) d4
  simp only [qg, w1, w2, w3, w4, w5, w6, w7, w8, w9, h1, h2, g4, k1, k3, k5, k6, k7, k8, k9, k10, k11, k12, e1, e2, e3, e5, e6, r1, r2, r3, e4, qac, qm, Ev.exec, qb, qe, qc, qd2, qag, Ev.evs, Ev.Opnd.ev, Ev.Env.get, Ev.Env.set, Ev.look, qn, qaj, qce, qal, qo, qav, ql, qae, Ev.kill, qad, qr, Ev.keep, qai, qy, qd, Ev.SObj.lo, qay, qbc, qb2, qdj, qj, ↓qq, ↓qak, ↓reduceIte, List.length_cons, List.length_nil, List.take_succ_cons, zfe, Nat.reduceAdd, Nat.reduceEqDiff, reduceCtorEq, decide_true, decide_false, zfc, zfa, and_self, zfd, Nat.lt_add_one, eq_self]
theorem q0k (x1 x2 y1 y2 a m b mid nn lo hi p start fin : Nat) (D D2 D3 D4 : List Evt) (N : Nums n x1 x2 y1 y2 a m b mid nn lo hi p start fin) (g1 : ¬ mid < m)
    (d1 : start < m) (d2 : m < fin) (d3 : a < start) (d4 : ¬ fin < b)
    (hf : qkz g cl n a m b mid nn a m p start D) (hS : Steps g cl n a m b mid start fin D D2 D3 D4) : qbg g cl n a m b D D4 := by
  obtain ⟨s1, n1, s2, n2, s3, n3⟩ := hS
  obtain ⟨⟨y, e, σ⟩, k1, k2, k3, k4, k5, k6, k7, k8, k9, k10, k11, k12⟩ := hf
  obtain ⟨w1, h1, w2, h2, w3, w4, w5, w6, w7, w8, w9, c5, c6⟩ := N.wraps
  simp only at k1 k2 k3 k4 k5 k6 k7 k8 k9 k10 k11 k12
  subst k2; subst k4
  unfold qbg at *
  rw [qs qi qf]
  have g4 : ¬ (m : Int) > (mid : Int) := fun h => g1 (Int.ofNat_lt.1 h)
  have e1 : (start : Int) < (m : Int) := Int.ofNat_lt.2 d1
  have e2 : (m : Int) < (fin : Int) := Int.ofNat_lt.2 d2
  have e3 : (a : Int) < (start : Int) := Int.ofNat_lt.2 d3
  have e5 : (mid : Int) < (fin : Int) := Int.ofNat_lt.2 (c5.2 d1)
  have e6 : (start : Int) < (mid : Int) := Int.ofNat_lt.2 (c6.2 d2)
  have e4 : ¬ (fin : Int) < (b : Int) := fun h => d4 (Int.ofNat_lt.1 h)
  have r1 := s1 d1 d2
  have r2 := s2 d3 (c6.2 d2)
  have r3 := n3 (fun h => d4 h.2); subst r3
  simp only [qg, w1, w2, w3, w4, w5, w6, w7, w8, w9, h1, h2, g4, k1, k3, k5, k6, k7, k8, k9, k10, k11, k12, e1, e2, e3, e5, e6, r1, r2, e4, qac, qm, Ev.exec, qb, qe, qc, qd2, qag, Ev.evs, Ev.Opnd.ev, Ev.Env.get, Ev.Env.set, Ev.look, qn, qaj, qce, qal, qo, qav, ql, qae, Ev.kill, qad, qr, Ev.keep, qai, qy, qd, Ev.SObj.lo, qay, qbc, qb2, qdj, qj, ↓qq, ↓qak, ↓reduceIte, List.length_cons, List.length_nil, List.take_succ_cons, zfe, Nat.reduceAdd, Nat.reduceEqDiff, reduceCtorEq, decide_true, decide_false, zfc, zfa, and_self, zfd, Nat.lt_add_one, eq_self]
theorem q1b (x1 x2 y1 y2 a m b mid nn lo hi p start fin : Nat) (D D2 D3 D4 : List Evt) (N : Nums n x1 x2 y1 y2 a m b mid nn lo hi p start fin) (g1 : ¬ mid < m)
    (d1 : start < m) (d2 : m < fin) (d3 : ¬ a < start) (d4 : fin < b)
    (hf : qkz g cl n a m b mid nn a m p start D) (hS : Steps g cl n a m b mid start fin D D2 D3 D4) : qbg g cl n a m b D D4 := by
  obtain ⟨s1, n1, s2, n2, s3, n3⟩ := hS
  obtain ⟨⟨y, e, σ⟩, k1, k2, k3, k4, k5, k6, k7, k8, k9, k10, k11, k12⟩ := hf
  obtain ⟨w1, h1, w2, h2, w3, w4, w5, w6, w7, w8, w9, c5, c6⟩ := N.wraps
  simp only at k1 k2 k3 k4 k5 k6 k7 k8 k9 k10 k11 k12
  subst k2; subst k4
  unfold qbg at *
  rw [qs qi qf]
  have g4 : ¬ (m : Int) > (mid : Int) := fun h => g1 (Int.ofNat_lt.1 h)
  have e1 : (start : Int) < (m : Int) := Int.ofNat_lt.2 d1
  have e2 : (m : Int) < (fin : Int) := Int.ofNat_lt.2 d2
  have e3 : ¬ (a : Int) < (start : Int) := fun h => d3 (Int.ofNat_lt.1 h)
  have e5 : (mid : Int) < (fin : Int) := Int.ofNat_lt.2 (c5.2 d1)
  have e6 : (start : Int) < (mid : Int) := Int.ofNat_lt.2 (c6.2 d2)
  have e4 : (fin : Int) < (b : Int) := Int.ofNat_lt.2 d4
  have r1 := s1 d1 d2
  have r2 := n2 (fun h => d3 h.1); subst r2
  have r3 := s3 (c5.2 d1) d4
  simp only [qg, w1, w2, w3, w4, w5, w6, w7, w8, w9, h1, h2, g4, k1, k3, k5, k6, k7, k8, k9, k10, k11, k12, e1, e2, e3, e5, r1, r3, e4, qac, qm, Ev.exec, qb, qe, qc, qd2, qag, Ev.evs, Ev.Opnd.ev, Ev.Env.get, Ev.Env.set, Ev.Env.unset, Ev.look, qn, qaj, qce, qal, qo, qav, ql, qae, Ev.kill, qad, qr, Ev.keep, qai, qy, qd, Ev.SObj.lo, qay, qbc, qb2, qdj, qj, ↓qq, ↓qak, ↓reduceIte, List.length_cons, List.length_nil, List.take_succ_cons, zfe, Nat.reduceAdd, Nat.reduceEqDiff, reduceCtorEq, decide_true, decide_false, zfc, zfa, and_self, zfd, Nat.lt_add_one, eq_self]
theorem qzw (x1 x2 y1 y2 a m b mid nn lo hi p start fin : Nat) (D D2 D3 D4 : List Evt) (N : Nums n x1 x2 y1 y2 a m b mid nn lo hi p start fin) (g1 : ¬ mid < m)
    (d1 : start < m) (d2 : m < fin) (d3 : ¬ a < start) (d4 : ¬ fin < b)
    (hf : qkz g cl n a m b mid nn a m p start D) (hS : Steps g cl n a m b mid start fin D D2 D3 D4) : qbg g cl n a m b D D4 := by
  obtain ⟨s1, n1, s2, n2, s3, n3⟩ := hS
  obtain ⟨⟨y, e, σ⟩, k1, k2, k3, k4, k5, k6, k7, k8, k9, k10, k11, k12⟩ := hf
  obtain ⟨w1, h1, w2, h2, w3, w4, w5, w6, w7, w8, w9, c5, c6⟩ := N.wraps
  simp only at k1 k2 k3 k4 k5 k6 k7 k8 k9 k10 k11 k12
  subst k2; subst k4
  unfold qbg at *
  rw [qs qi qf]
  have g4 : ¬ (m : Int) > (mid : Int) := fun h => g1 (Int.ofNat_lt.1 h)
  have e1 : (start : Int) < (m : Int) := Int.ofNat_lt.2 d1
  have e2 : (m : Int) < (fin : Int) := Int.ofNat_lt.2 d2
  have e3 : ¬ (a : Int) < (start : Int) := fun h => d3 (Int.ofNat_lt.1 h)
  have e5 : (mid : Int) < (fin : Int) := Int.ofNat_lt.2 (c5.2 d1)
  have e6 : (start : Int) < (mid : Int) := Int.ofNat_lt.2 (c6.2 d2)
  have e4 : ¬ (fin : Int) < (b : Int) := fun h => d4 (Int.ofNat_lt.1 h)
  have r1 := s1 d1 d2
  have r2 := n2 (fun h => d3 h.1); subst r2
  have r3 := n3 (fun h => d4 h.2); subst r3
  simp only [qg, w1, w2, w3, w4, w5, w6, w7, w8, w9, h1, h2, g4, k1, k3, k5, k6, k7, k8, k9, k10, k11, k12, e1, e2, e3, e5, r1, e4, qac, qm, Ev.exec, qb, qe, qc, qd2, qag, Ev.evs, Ev.Opnd.ev, Ev.Env.get, Ev.Env.set, Ev.Env.unset, Ev.look, qn, qaj, qce, qal, qo, qav, ql, qae, Ev.kill, qad, qr, Ev.keep, qai, qy, qd, Ev.SObj.lo, qay, qbc, qb2, qdj, qj, ↓qq, ↓qak, ↓reduceIte, List.length_cons, List.length_nil, List.take_succ_cons, zfe, Nat.reduceAdd, Nat.reduceEqDiff, reduceCtorEq, decide_true, decide_false, zfc, zfa, and_self, zfd, Nat.lt_add_one, eq_self]
theorem qz9 (x1 x2 y1 y2 a m b mid nn lo hi p start fin : Nat) (D D2 D3 D4 : List Evt) (N : Nums n x1 x2 y1 y2 a m b mid nn lo hi p start fin) (g1 : ¬ mid < m)
    (d1 : start < m) (d2 : ¬ m < fin) (d3 : a < start) (d4 : fin < b)
    (hf : qkz g cl n a m b mid nn a m p start D) (hS : Steps g cl n a m b mid start fin D D2 D3 D4) : qbg g cl n a m b D D4 := by
  obtain ⟨s1, n1, s2, n2, s3, n3⟩ := hS
  obtain ⟨⟨y, e, σ⟩, k1, k2, k3, k4, k5, k6, k7, k8, k9, k10, k11, k12⟩ := hf
  obtain ⟨w1, h1, w2, h2, w3, w4, w5, w6, w7, w8, w9, c5, c6⟩ := N.wraps
  simp only at k1 k2 k3 k4 k5 k6 k7 k8 k9 k10 k11 k12
  subst k2; subst k4
  unfold qbg at *
  rw [qs qi qf]
  have g4 : ¬ (m : Int) > (mid : Int) := fun h => g1 (Int.ofNat_lt.1 h)
  have e1 : (start : Int) < (m : Int) := Int.ofNat_lt.2 d1
  have e2 : ¬ (m : Int) < (fin : Int) := fun h => d2 (Int.ofNat_lt.1 h)
  have e3 : (a : Int) < (start : Int) := Int.ofNat_lt.2 d3
  have e5 : (mid : Int) < (fin : Int) := Int.ofNat_lt.2 (c5.2 d1)
  have e6 : ¬ (start : Int) < (mid : Int) := fun h => d2 (c6.1 (Int.ofNat_lt.1 h))
  have e4 : (fin : Int) < (b : Int) := Int.ofNat_lt.2 d4
  have r1 := n1 (fun h => d2 h.2); subst r1
  have r2 := n2 (fun h => d2 (c6.1 h.2)); subst r2
  have r3 := s3 (c5.2 d1) d4
  simp only [qg, w1, w2, w3, w4, w5, w6, w7, w8, w9, h1, h2, g4, k1, k3, k5, k6, k7, k8, k9, k10, k11, k12, e1, e2, e3, e5, e6, r3, e4, qac, qm, Ev.exec, qb, qe, qc, qd2, qag, Ev.evs, Ev.Opnd.ev, Ev.Env.get, Ev.Env.set, Ev.look, qn, qaj, qce, qal, qo, qav, ql, qae, Ev.kill, qad, qr, Ev.keep, qai, qy, qd, Ev.SObj.lo, qay, qbc, qb2, qdj, qj, ↓qq, ↓qak, ↓reduceIte, List.length_cons, List.length_nil, List.take_succ_cons, zfe, Nat.reduceAdd, Nat.reduceEqDiff, reduceCtorEq, decide_true, decide_false, zfc, zfa, and_self, zfd, Nat.lt_add_one, eq_self]
theorem q1z (x1 x2 y1 y2 a m b mid nn lo hi p start fin : Nat) (D D2 D3 D4 : List Evt) (N : Nums n x1 x2 y1 y2 a m b mid nn lo hi p start fin) (g1 : ¬ mid < m)
    (d1 : start < m) (d2 : ¬ m < fin) (d3 : a < start) (d4 : ¬ fin < b)
    (hf : qkz g cl n a m b mid nn a m p start D) (hS : Steps g cl n a m b mid start fin D D2 D3 D4) : qbg g cl n a m b D D4 := by
  obtain ⟨s1, n1, s2, n2, s3, n3⟩ := hS
  obtain ⟨⟨y, e, σ⟩, k1, k2, k3, k4, k5, k6, k7, k8, k9, k10, k11, k12⟩ := hf
  obtain ⟨w1, h1, w2, h2, w3, w4, w5, w6, w7, w8, w9, c5, c6⟩ := N.wraps
  simp only at k1 k2 k3 k4 k5 k6 k7 k8 k9 k10 k11 k12
  subst k2; subst k4
  unfold qbg at *
  rw [qs qi qf]
  have g4 : ¬ (m : Int) > (mid : Int) := fun h => g1 (Int.ofNat_lt.1 h)
  have e1 : (start : Int) < (m : Int) := Int.ofNat_lt.2 d1
  have e2 : ¬ (m : Int) < (fin : Int) := fun h => d2 (Int.ofNat_lt.1 h)
  have e3 : (a : Int) < (start : Int) := Int.ofNat_lt.2 d3
  have e5 : (mid : Int) < (fin : Int) := Int.ofNat_lt.2 (c5.2 d1)
  have e6 : ¬ (start : Int) < (mid : Int) := fun h => d2 (c6.1 (Int.ofNat_lt.1 h))
  have e4 : ¬ (fin : Int) < (b : Int) := fun h => d4 (Int.ofNat_lt.1 h)
  have r1 := n1 (fun h => d2 h.2); subst r1
  have r2 := n2 (fun h => d2 (c6.1 h.2)); subst r2
  have r3 := n3 (fun h => d4 h.2); subst r3
  simp only [qg, w1, w2, w3, w4, w5, w6, w7, w8, w9, h1, h2, g4, k1, k3, k6, k7, k8, k10, k11, k12, e1, e2, e3, e5, e6, e4, qac, qm, Ev.exec, qb, qe, qc, qag, Ev.Opnd.ev, Ev.Env.get, Ev.Env.set, Ev.look, qn, qaj, qce, qal, qo, qav, ql, qae, Ev.kill, qad, qr, Ev.keep, qai, qy, qd, Ev.SObj.lo, qay, qbc, qb2, qdj, qj, ↓qq, ↓qak, ↓reduceIte, List.length_cons, List.length_nil, List.take_succ_cons, zfe, Nat.reduceAdd, Nat.reduceEqDiff, reduceCtorEq, decide_true, decide_false, zfc, zfa, and_self, zfd, Nat.lt_add_one, eq_self]
theorem q08 (x1 x2 y1 y2 a m b mid nn lo hi p start fin : Nat) (D D2 D3 D4 : List Evt) (N : Nums n x1 x2 y1 y2 a m b mid nn lo hi p start fin) (g1 : ¬ mid < m)
    (d1 : start < m) (d2 : ¬ m < fin) (d3 : ¬ a < start) (d4 : fin < b)
    (hf : qkz g cl n a m b mid nn a m p start D) (hS : Steps g cl n a m b mid start fin D D2 D3 D4) : qbg g cl n a m b D D4 := by
  obtain ⟨s1, n1, s2, n2, s3, n3⟩ := hS
  obtain ⟨⟨y, e, σ⟩, k1, k2, k3, k4, k5, k6, k7, k8, k9, k10, k11, k12⟩ := hf
  obtain ⟨w1, h1, w2, h2, w3, w4, w5, w6, w7, w8, w9, c5, c6⟩ := N.wraps
  simp only at k1 k2 k3 k4 k5 k6 k7 k8 k9 k10 k11 k12
  subst k2; subst k4
  unfold qbg at *
  rw [qs qi qf]
  have g4 : ¬ (m : Int) > (mid : Int) := fun h => g1 (Int.ofNat_lt.1 h)
  have e1 : (start : Int) < (m : Int) := Int.ofNat_lt.2 d1
  have e2 : ¬ (m : Int) < (fin : Int) := fun h => d2 (Int.ofNat_lt.1 h)
  have e3 : ¬ (a : Int) < (start : Int) := fun h => d3 (Int.ofNat_lt.1 h)
  have e5 : (mid : Int) < (fin : Int) := Int.ofNat_lt.2 (c5.2 d1)
  have e6 : ¬ (start : Int) < (mid : Int) := fun h => d2 (c6.1 (Int.ofNat_lt.1 h))
  have e4 : (fin : Int) < (b : Int) := Int.ofNat_lt.2 d4
  have r1 := n1 (fun h => d2 h.2); subst r1
  have r2 := n2 (fun h => d3 h.1); subst r2
  have r3 := s3 (c5.2 d1) d4
  simp only [qg, w1, w2, w3, w4, w5, w6, w7, w8, w9, h1, h2, g4, k1, k3, k5, k6, k7, k8, k9, k10, k11, k12, e1, e2, e3, e5, r3, e4, qac, qm, Ev.exec, qb, qe, qc, qd2, qag, Ev.evs, Ev.Opnd.ev, Ev.Env.get, Ev.Env.set, Ev.Env.unset, Ev.look, qn, qaj, qce, qal, qo, qav, ql, qae, Ev.kill, qad, qr, Ev.keep, qai, qy, qd, Ev.SObj.lo, qay, qbc, qb2, qdj, qj, ↓qq, ↓qak, ↓reduceIte, List.length_cons, List.length_nil, List.take_succ_cons, zfe, Nat.reduceAdd, Nat.reduceEqDiff, reduceCtorEq, decide_true, decide_false, zfc, zfa, and_self, zfd, Nat.lt_add_one, eq_self]
theorem q06 (x1 x2 y1 y2 a m b mid nn lo hi p start fin : Nat) (D D2 D3 D4 : List Evt) (N : Nums n x1 x2 y1 y2 a m b mid nn lo hi p start fin) (g1 : ¬ mid < m)
    (d1 : start < m) (d2 : ¬ m < fin) (d3 : ¬ a < start) (d4 : ¬ fin < b)
    (hf : qkz g cl n a m b mid nn a m p start D) (hS : Steps g cl n a m b mid start fin D D2 D3 D4) : qbg g cl n a m b D D4 := by
  obtain ⟨s1, n1, s2, n2, s3, n3⟩ := hS
  obtain ⟨⟨y, e, σ⟩, k1, k2, k3, k4, k5, k6, k7, k8, k9, k10, k11, k12⟩ := hf
  obtain ⟨w1, h1, w2, h2, w3, w4, w5, w6, w7, w8, w9, c5, c6⟩ := N.wraps
  simp only at k1 k2 k3 k4 k5 k6 k7 k8 k9 k10 k11 k12
  subst k2; subst k4
  unfold qbg at *
  rw [qs qi qf]
  have g4 : ¬ (m : Int) > (mid : Int) := fun h => g1 (Int.ofNat_lt.1 h)
  have e1 : (start : Int) < (m : Int) := Int.ofNat_lt.2 d1
  have e2 : ¬ (m : Int) < (fin : Int) := fun h => d2 (Int.ofNat_lt.1 h)
  have e3 : ¬ (a : Int) < (start : Int) := fun h => d3 (Int.ofNat_lt.1 h)
  have e5 : (mid : Int) < (fin : Int) := Int.ofNat_lt.2 (c5.2 d1)
  have e6 : ¬ (start : Int) < (mid : Int) := fun h => d2 (c6.1 (Int.ofNat_lt.1 h))
  have e4 : ¬ (fin : Int) < (b : Int) := fun h => d4 (Int.ofNat_lt.1 h)
  have r1 := n1 (fun h => d2 h.2); subst r1
  have r2 := n2 (fun h => d3 h.1); subst r2
  have r3 := n3 (fun h => d4 h.2); subst r3
  simp only [qg, w1, w2, w3, w4, w5, w6, w7, w8, w9, h1, h2, g4, k1, k3, k6, k7, k8, k10, k11, k12, e1, e2, e3, e5, e4, qac, qm, Ev.exec, qb, qe, qc, qag, Ev.Opnd.ev, Ev.Env.get, Ev.Env.set, Ev.Env.unset, Ev.look, qn, qaj, qce, qal, qo, qav, ql, qae, Ev.kill, qad, qr, Ev.keep, qai, qy, qd, Ev.SObj.lo, qay, qbc, qb2, qdj, qj, ↓qq, ↓qak, ↓reduceIte, List.length_cons, List.length_nil, List.take_succ_cons, zfe, Nat.reduceAdd, Nat.reduceEqDiff, reduceCtorEq, decide_true, decide_false, zfc, zfa, and_self, zfd, Nat.lt_add_one, eq_self]
theorem qzn (x1 x2 y1 y2 a m b mid nn lo hi p start fin : Nat) (D D2 D3 D4 : List Evt) (N : Nums n x1 x2 y1 y2 a m b mid nn lo hi p start fin) (g1 : ¬ mid < m)
    (d1 : ¬ start < m) (d2 : m < fin) (d3 : a < start) (d4 : fin < b)
    (hf : qkz g cl n a m b mid nn a m p start D) (hS : Steps g cl n a m b mid start fin D D2 D3 D4) : qbg g cl n a m b D D4 := by
  obtain ⟨s1, n1, s2, n2, s3, n3⟩ := hS
  obtain ⟨⟨y, e, σ⟩, k1, k2, k3, k4, k5, k6, k7, k8, k9, k10, k11, k12⟩ := hf
  obtain ⟨w1, h1, w2, h2, w3, w4, w5, w6, w7, w8, w9, c5, c6⟩ := N.wraps
  simp only at k1 k2 k3 k4 k5 k6 k7 k8 k9 k10 k11 k12
  subst k2; subst k4
  unfold qbg at *
  rw [qs qi qf]
  have g4 : ¬ (m : Int) > (mid : Int) := fun h => g1 (Int.ofNat_lt.1 h)
  have e1 : ¬ (start : Int) < (m : Int) := fun h => d1 (Int.ofNat_lt.1 h)
  have e2 : (m : Int) < (fin : Int) := Int.ofNat_lt.2 d2
  have e3 : (a : Int) < (start : Int) := Int.ofNat_lt.2 d3
  have e5 : ¬ (mid : Int) < (fin : Int) := fun h => d1 (c5.1 (Int.ofNat_lt.1 h))
  have e6 : (start : Int) < (mid : Int) := Int.ofNat_lt.2 (c6.2 d2)
  have e4 : (fin : Int) < (b : Int) := Int.ofNat_lt.2 d4
  have r1 := n1 (fun h => d1 h.1); subst r1
  have r2 := s2 d3 (c6.2 d2)
  have r3 := n3 (fun h => d1 (c5.1 h.1)); subst r3
  simp only [qg, w1, w2, w3, w4, w5, w6, w7, w8, w9, h1, h2, g4, k1, k3, k5, k6, k7, k9, k10, k11, k12, e1, e3, e5, e6, r2, qac, qm, Ev.exec, qb, qe, qc, qd2, qag, Ev.evs, Ev.Opnd.ev, Ev.Env.get, Ev.Env.set, Ev.Env.unset, Ev.look, qn, qaj, qce, qal, qo, qav, ql, qae, Ev.kill, qad, qr, Ev.keep, qai, qy, qd, Ev.SObj.lo, qay, qbc, qb2, qdj, qj, ↓qq, ↓qak, ↓reduceIte, List.length_cons, List.length_nil, List.take_succ_cons, zfe, Nat.reduceAdd, Nat.reduceEqDiff, reduceCtorEq, decide_true, decide_false, zfc, zfa, and_self, zfd, Nat.lt_add_one, eq_self]
theorem q1o (x1 x2 y1 y2 a m b mid nn lo hi p start fin : Nat) (D D2 D3 D4 : List Evt) (N : Nums n x1 x2 y1 y2 a m b mid nn lo hi p start fin) (g1 : ¬ mid < m)
    (d1 : ¬ start < m) (d2 : m < fin) (d3 : a < start) (d4 : ¬ fin < b)
    (hf : qkz g cl n a m b mid nn a m p start D) (hS : Steps g cl n a m b mid start fin D D2 D3 D4) : qbg g cl n a m b D D4 := by
  obtain ⟨s1, n1, s2, n2, s3, n3⟩ := hS
  obtain ⟨⟨y, e, σ⟩, k1, k2, k3, k4, k5, k6, k7, k8, k9, k10, k11, k12⟩ := hf
  obtain ⟨w1, h1, w2, h2, w3, w4, w5, w6, w7, w8, w9, c5, c6⟩ := N.wraps
  simp only at k1 k2 k3 k4 k5 k6 k7 k8 k9 k10 k11 k12
  subst k2; subst k4
  unfold qbg at *
  rw [qs qi qf]
  have g4 : ¬ (m : Int) > (mid : Int) := fun h => g1 (Int.ofNat_lt.1 h)
  have e1 : ¬ (start : Int) < (m : Int) := fun h => d1 (Int.ofNat_lt.1 h)
  have e2 : (m : Int) < (fin : Int) := Int.ofNat_lt.2 d2
  have e3 : (a : Int) < (start : Int) := Int.ofNat_lt.2 d3
  have e5 : ¬ (mid : Int) < (fin : Int) := fun h => d1 (c5.1 (Int.ofNat_lt.1 h))
  have e6 : (start : Int) < (mid : Int) := Int.ofNat_lt.2 (c6.2 d2)
  have e4 : ¬ (fin : Int) < (b : Int) := fun h => d4 (Int.ofNat_lt.1 h)
  have r1 := n1 (fun h => d1 h.1); subst r1
  have r2 := s2 d3 (c6.2 d2)
  have r3 := n3 (fun h => d1 (c5.1 h.1)); subst r3
  simp only [qg, w1, w2, w3, w4, w5, w6, w7, w8, w9, h1, h2, g4, k1, k3, k5, k6, k7, k9, k10, k11, k12, e1, e3, e5, e6, r2, qac, qm, Ev.exec, qb, qe, qc, qd2, qag, Ev.evs, Ev.Opnd.ev, Ev.Env.get, Ev.Env.set, Ev.Env.unset, Ev.look, qn, qaj, qce, qal, qo, qav, ql, qae, Ev.kill, qad, qr, Ev.keep, qai, qy, qd, Ev.SObj.lo, qay, qbc, qb2, qdj, qj, ↓qq, ↓qak, ↓reduceIte, List.length_cons, List.length_nil, List.take_succ_cons, zfe, Nat.reduceAdd, Nat.reduceEqDiff, reduceCtorEq, decide_true, decide_false, zfc, zfa, and_self, zfd, Nat.lt_add_one, eq_self]
theorem q1q (x1 x2 y1 y2 a m b mid nn lo hi p start fin : Nat) (D D2 D3 D4 : List Evt) (N : Nums n x1 x2 y1 y2 a m b mid nn lo hi p start fin) (g1 : ¬ mid < m)
    (d1 : ¬ start < m) (d2 : m < fin) (d3 : ¬ a < start) (d4 : fin < b)
    (hf : qkz g cl n a m b mid nn a m p start D) (hS : Steps g cl n a m b mid start fin D D2 D3 D4) : qbg g cl n a m b D D4 := by
  obtain ⟨s1, n1, s2, n2, s3, n3⟩ := hS
  obtain ⟨⟨y, e, σ⟩, k1, k2, k3, k4, k5, k6, k7, k8, k9, k10, k11, k12⟩ := hf
  obtain ⟨w1, h1, w2, h2, w3, w4, w5, w6, w7, w8, w9, c5, c6⟩ := N.wraps
  simp only at k1 k2 k3 k4 k5 k6 k7 k8 k9 k10 k11 k12
  subst k2; subst k4
  unfold qbg at *
  rw [qs qi qf]
  have g4 : ¬ (m : Int) > (mid : Int) := fun h => g1 (Int.ofNat_lt.1 h)
  have e1 : ¬ (start : Int) < (m : Int) := fun h => d1 (Int.ofNat_lt.1 h)
  have e2 : (m : Int) < (fin : Int) := Int.ofNat_lt.2 d2
  have e3 : ¬ (a : Int) < (start : Int) := fun h => d3 (Int.ofNat_lt.1 h)
  have e5 : ¬ (mid : Int) < (fin : Int) := fun h => d1 (c5.1 (Int.ofNat_lt.1 h))
  have e6 : (start : Int) < (mid : Int) := Int.ofNat_lt.2 (c6.2 d2)
  have e4 : (fin : Int) < (b : Int) := Int.ofNat_lt.2 d4
  have r1 := n1 (fun h => d1 h.1); subst r1
  have r2 := n2 (fun h => d3 h.1); subst r2
  have r3 := n3 (fun h => d1 (c5.1 h.1)); subst r3
  simp only [qg, w1, w2, w3, w4, w5, w6, w7, w8, w9, h1, h2, g4, k1, k3, k6, k7, k10, k11, k12, e1, e3, e5, qac, qm, Ev.exec, qb, qe, qc, qag, Ev.Opnd.ev, Ev.Env.get, Ev.Env.set, Ev.Env.unset, Ev.look, qn, qaj, qce, qal, qo, qav, ql, qae, Ev.kill, qad, qr, Ev.keep, qai, qy, qd, Ev.SObj.lo, qay, qbc, qb2, qdj, qj, ↓qq, ↓qak, ↓reduceIte, List.length_cons, List.length_nil, List.take_succ_cons, zfe, Nat.reduceAdd, Nat.reduceEqDiff, reduceCtorEq, decide_true, decide_false, zfc, zfa, and_self, zfd, Nat.lt_add_one, eq_self]
theorem q0c (x1 x2 y1 y2 a m b mid nn lo hi p start fin : Nat) (D D2 D3 D4 : List Evt) (N : Nums n x1 x2 y1 y2 a m b mid nn lo hi p start fin) (g1 : ¬ mid < m)
    (d1 : ¬ start < m) (d2 : m < fin) (d3 : ¬ a < start) (d4 : ¬ fin < b)
    (hf : qkz g cl n a m b mid nn a m p start D) (hS : Steps g cl n a m b mid start fin D D2 D3 D4) : qbg g cl n a m b D D4 := by
  obtain ⟨s1, n1, s2, n2, s3, n3⟩ := hS
  obtain ⟨⟨y, e, σ⟩, k1, k2, k3, k4, k5, k6, k7, k8, k9, k10, k11, k12⟩ := hf
  obtain ⟨w1, h1, w2, h2, w3, w4, w5, w6, w7, w8, w9, c5, c6⟩ := N.wraps
  simp only at k1 k2 k3 k4 k5 k6 k7 k8 k9 k10 k11 k12
  subst k2; subst k4
  unfold qbg at *
  rw [qs qi qf]
  have g4 : ¬ (m : Int) > (mid : Int) := fun h => g1 (Int.ofNat_lt.1 h)
  have e1 : ¬ (start : Int) < (m : Int) := fun h => d1 (Int.ofNat_lt.1 h)
  have e2 : (m : Int) < (fin : Int) := Int.ofNat_lt.2 d2
  have e3 : ¬ (a : Int) < (start : Int) := fun h => d3 (Int.ofNat_lt.1 h)
  have e5 : ¬ (mid : Int) < (fin : Int) := fun h => d1 (c5.1 (Int.ofNat_lt.1 h))
  have e6 : (start : Int) < (mid : Int) := Int.ofNat_lt.2 (c6.2 d2)
  have e4 : ¬ (fin : Int) < (b : Int) := fun h => d4 (Int.ofNat_lt.1 h)
  have r1 := n1 (fun h => d1 h.1); subst r1
  have r2 := n2 (fun h => d3 h.1); subst r2
  have r3 := n3 (fun h => d1 (c5.1 h.1)); subst r3
  simp only [qg, w1, w2, w3, w4, w5, w6, w7, w8, w9, h1, h2, g4, k1, k3, k6, k7, k10, k11, k12, e1, e3, e5, qac, qm, Ev.exec, qb, qe, qc, qag, Ev.Opnd.ev, Ev.Env.get, Ev.Env.set, Ev.Env.unset, Ev.look, qn, qaj, qce, qal, qo, qav, ql, qae, Ev.kill, qad, qr, Ev.keep, qai, qy, qd, Ev.SObj.lo, qay, qbc, qb2, qdj, qj, ↓qq, ↓qak, ↓reduceIte, List.length_cons, List.length_nil, List.take_succ_cons, zfe, Nat.reduceAdd, Nat.reduceEqDiff, reduceCtorEq, decide_true, decide_false, zfc, zfa, and_self, zfd, Nat.lt_add_one, eq_self]
theorem qz0 (x1 x2 y1 y2 a m b mid nn lo hi p start fin : Nat) (D D2 D3 D4 : List Evt) (N : Nums n x1 x2 y1 y2 a m b mid nn lo hi p start fin) (g1 : ¬ mid < m)
    (d1 : ¬ start < m) (d2 : ¬ m < fin) (d3 : a < start) (d4 : fin < b)
    (hf : qkz g cl n a m b mid nn a m p start D) (hS : Steps g cl n a m b mid start fin D D2 D3 D4) : qbg g cl n a m b D D4 := by
  obtain ⟨s1, n1, s2, n2, s3, n3⟩ := hS
  obtain ⟨⟨y, e, σ⟩, k1, k2, k3, k4, k5, k6, k7, k8, k9, k10, k11, k12⟩ := hf
  obtain ⟨w1, h1, w2, h2, w3, w4, w5, w6, w7, w8, w9, c5, c6⟩ := N.wraps
  simp only at k1 k2 k3 k4 k5 k6 k7 k8 k9 k10 k11 k12
  subst k2; subst k4
  unfold qbg at *
  rw [qs qi qf]
  have g4 : ¬ (m : Int) > (mid : Int) := fun h => g1 (Int.ofNat_lt.1 h)
  have e1 : ¬ (start : Int) < (m : Int) := fun h => d1 (Int.ofNat_lt.1 h)
  have e2 : ¬ (m : Int) < (fin : Int) := fun h => d2 (Int.ofNat_lt.1 h)
  have e3 : (a : Int) < (start : Int) := Int.ofNat_lt.2 d3
  have e5 : ¬ (mid : Int) < (fin : Int) := fun h => d1 (c5.1 (Int.ofNat_lt.1 h))
  have e6 : ¬ (start : Int) < (mid : Int) := fun h => d2 (c6.1 (Int.ofNat_lt.1 h))
  have e4 : (fin : Int) < (b : Int) := Int.ofNat_lt.2 d4
  have r1 := n1 (fun h => d1 h.1); subst r1
  have r2 := n2 (fun h => d2 (c6.1 h.2)); subst r2
  have r3 := n3 (fun h => d1 (c5.1 h.1)); subst r3
  simp only [qg, w1, w2, w3, w4, w5, w6, w7, w8, w9, h1, h2, g4, k1, k3, k6, k7, k10, k11, k12, e1, e3, e5, e6, qac, qm, Ev.exec, qb, qe, qc, qag, Ev.Opnd.ev, Ev.Env.get, Ev.Env.set, Ev.Env.unset, Ev.look, qn, qaj, qce, qal, qo, qav, ql, qae, Ev.kill, qad, qr, Ev.keep, qai, qy, qd, Ev.SObj.lo, qay, qbc, qb2, qdj, qj, ↓qq, ↓qak, ↓reduceIte, List.length_cons, List.length_nil, List.take_succ_cons, zfe, Nat.reduceAdd, Nat.reduceEqDiff, reduceCtorEq, decide_true, decide_false, zfc, zfa, and_self, zfd, Nat.lt_add_one, eq_self]
theorem q14 (x1 x2 y1 y2 a m b mid nn lo hi p start fin : Nat) (D D2 D3 D4 : List Evt) (N : Nums n x1 x2 y1 y2 a m b mid nn lo hi p start fin) (g1 : ¬ mid < m)
    (d1 : ¬ start < m) (d2 : ¬ m < fin) (d3 : a < start) (d4 : ¬ fin < b)
    (hf : qkz g cl n a m b mid nn a m p start D) (hS : Steps g cl n a m b mid start fin D D2 D3 D4) : qbg g cl n a m b D D4 := by
  obtain ⟨s1, n1, s2, n2, s3, n3⟩ := hS
  obtain ⟨⟨y, e, σ⟩, k1, k2, k3, k4, k5, k6, k7, k8, k9, k10, k11, k12⟩ := hf
  obtain ⟨w1, h1, w2, h2, w3, w4, w5, w6, w7, w8, w9, c5, c6⟩ := N.wraps
  simp only at k1 k2 k3 k4 k5 k6 k7 k8 k9 k10 k11 k12
  subst k2; subst k4
  unfold qbg at *
  rw [qs qi qf]
  have g4 : ¬ (m : Int) > (mid : Int) := fun h => g1 (Int.ofNat_lt.1 h)
  have e1 : ¬ (start : Int) < (m : Int) := fun h => d1 (Int.ofNat_lt.1 h)
  have e2 : ¬ (m : Int) < (fin : Int) := fun h => d2 (Int.ofNat_lt.1 h)
  have e3 : (a : Int) < (start : Int) := Int.ofNat_lt.2 d3
  have e5 : ¬ (mid : Int) < (fin : Int) := fun h => d1 (c5.1 (Int.ofNat_lt.1 h))
  have e6 : ¬ (start : Int) < (mid : Int) := fun h => d2 (c6.1 (Int.ofNat_lt.1 h))
  have e4 : ¬ (fin : Int) < (b : Int) := fun h => d4 (Int.ofNat_lt.1 h)
  have r1 := n1 (fun h => d1 h.1); subst r1
  have r2 := n2 (fun h => d2 (c6.1 h.2)); subst r2
  have r3 := n3 (fun h => d1 (c5.1 h.1)); subst r3
  simp only [qg, w1, w2, w3, w4, w5, w6, w7, w8, w9, h1, h2, g4, k1, k3, k6, k7, k10, k11, k12, e1, e3, e5, e6, qac, qm, Ev.exec, qb, qe, qc, qag, Ev.Opnd.ev, Ev.Env.get, Ev.Env.set, Ev.Env.unset, Ev.look, qn, qaj, qce, qal, qo, qav, ql, qae, Ev.kill, qad, qr, Ev.keep, qai, qy, qd, Ev.SObj.lo, qay, qbc, qb2, qdj, qj, ↓qq, ↓qak, ↓reduceIte, List.length_cons, List.length_nil, List.take_succ_cons, zfe, Nat.reduceAdd, Nat.reduceEqDiff, reduceCtorEq, decide_true, decide_false, zfc, zfa, and_self, zfd, Nat.lt_add_one, eq_self]
theorem qz5 (x1 x2 y1 y2 a m b mid nn lo hi p start fin : Nat) (D D2 D3 D4 : List Evt) (N : Nums n x1 x2 y1 y2 a m b mid nn lo hi p start fin) (g1 : ¬ mid < m)
    (d1 : ¬ start < m) (d2 : ¬ m < fin) (d3 : ¬ a < start) (d4 : fin < b)
    (hf : qkz g cl n a m b mid nn a m p start D) (hS : Steps g cl n a m b mid start fin D D2 D3 D4) : qbg g cl n a m b D D4 := by
  obtain ⟨s1, n1, s2, n2, s3, n3⟩ := hS
  obtain ⟨⟨y, e, σ⟩, k1, k2, k3, k4, k5, k6, k7, k8, k9, k10, k11, k12⟩ := hf
  obtain ⟨w1, h1, w2, h2, w3, w4, w5, w6, w7, w8, w9, c5, c6⟩ := N.wraps
  simp only at k1 k2 k3 k4 k5 k6 k7 k8 k9 k10 k11 k12
  subst k2; subst k4
  unfold qbg at *
  rw [qs qi qf]
  have g4 : ¬ (m : Int) > (mid : Int) := fun h => g1 (Int.ofNat_lt.1 h)
  have e1 : ¬ (start : Int) < (m : Int) := fun h => d1 (Int.ofNat_lt.1 h)
  have e2 : ¬ (m : Int) < (fin : Int) := fun h => d2 (Int.ofNat_lt.1 h)
  have e3 : ¬ (a : Int) < (start : Int) := fun h => d3 (Int.ofNat_lt.1 h)
  have e5 : ¬ (mid : Int) < (fin : Int) := fun h => d1 (c5.1 (Int.ofNat_lt.1 h))
  have e6 : ¬ (start : Int) < (mid : Int) := fun h => d2 (c6.1 (Int.ofNat_lt.1 h))
  have e4 : (fin : Int) < (b : Int) := Int.ofNat_lt.2 d4
  have r1 := n1 (fun h => d1 h.1); subst r1
  have r2 := n2 (fun h => d3 h.1); subst r2
  have r3 := n3 (fun h => d1 (c5.1 h.1)); subst r3
  simp only [qg, w1, w2, w3, w4, w5, w6, w7, w8, w9, h1, h2, g4, k1, k3, k6, k7, k10, k11, k12, e1, e3, e5, qac, qm, Ev.exec, qb, qe, qc, qag, Ev.Opnd.ev, Ev.Env.get, Ev.Env.set, Ev.Env.unset, Ev.look, qn, qaj, qce, qal, qo, qav, ql, qae, Ev.kill, qad, qr, Ev.keep, qai, qy, qd, Ev.SObj.lo, qay, qbc, qb2, qdj, qj, ↓qq, ↓qak, ↓reduceIte, List.length_cons, List.length_nil, List.take_succ_cons, zfe, Nat.reduceAdd, Nat.reduceEqDiff, reduceCtorEq, decide_true, decide_false, zfc, zfa, and_self, zfd, Nat.lt_add_one, eq_self]
theorem q00 (x1 x2 y1 y2 a m b mid nn lo hi p start fin : Nat) (D D2 D3 D4 : List Evt) (N : Nums n x1 x2 y1 y2 a m b mid nn lo hi p start fin) (g1 : ¬ mid < m)
    (d1 : ¬ start < m) (d2 : ¬ m < fin) (d3 : ¬ a < start) (d4 : ¬ fin < b)
    (hf : qkz g cl n a m b mid nn a m p start D) (hS : Steps g cl n a m b mid start fin D D2 D3 D4) : qbg g cl n a m b D D4 := by
  obtain ⟨s1, n1, s2, n2, s3, n3⟩ := hS
  obtain ⟨⟨y, e, σ⟩, k1, k2, k3, k4, k5, k6, k7, k8, k9, k10, k11, k12⟩ := hf
  obtain ⟨w1, h1, w2, h2, w3, w4, w5, w6, w7, w8, w9, c5, c6⟩ := N.wraps
  simp only at k1 k2 k3 k4 k5 k6 k7 k8 k9 k10 k11 k12
  subst k2; subst k4
  unfold qbg at *
  rw [qs qi qf]
  have g4 : ¬ (m : Int) > (mid : Int) := fun h => g1 (Int.ofNat_lt.1 h)
  have e1 : ¬ (start : Int) < (m : Int) := fun h => d1 (Int.ofNat_lt.1 h)
  have e2 : ¬ (m : Int) < (fin : Int) := fun h => d2 (Int.ofNat_lt.1 h)
  have e3 : ¬ (a : Int) < (start : Int) := fun h => d3 (Int.ofNat_lt.1 h)
  have e5 : ¬ (mid : Int) < (fin : Int) := fun h => d1 (c5.1 (Int.ofNat_lt.1 h))
  have e6 : ¬ (start : Int) < (mid : Int) := fun h => d2 (c6.1 (Int.ofNat_lt.1 h))
  have e4 : ¬ (fin : Int) < (b : Int) := fun h => d4 (Int.ofNat_lt.1 h)
  have r1 := n1 (fun h => d1 h.1); subst r1
  have r2 := n2 (fun h => d3 h.1); subst r2
  have r3 := n3 (fun h => d1 (c5.1 h.1)); subst r3
  simp only [qg, w1, w2, w3, w4, w5, w6, w7, w8, w9, h1, h2, g4, k1, k3, k6, k7, k10, k11, k12, e1, e3, e5, qac, qm, Ev.exec, qb, qe, qc, qag, Ev.Opnd.ev, Ev.Env.get, Ev.Env.set, Ev.Env.unset, Ev.look, qn, qaj, qce, qal, qo, qav, ql, qae, Ev.kill, qad, qr, Ev.keep, qai, qy, qd, Ev.SObj.lo, qay, qbc, qb2, qdj, qj, ↓qq, ↓qak, ↓reduceIte, List.length_cons, List.length_nil, List.take_succ_cons, zfe, Nat.reduceAdd, Nat.reduceEqDiff, reduceCtorEq, decide_true, decide_false, zfc, zfa, and_self, zfd, Nat.lt_add_one, eq_self]
theorem qaap (x1 x2 y1 y2 a m b mid nn lo hi p start fin : Nat) (D D2 D3 D4 : List Evt) (N : Nums n x1 x2 y1 y2 a m b mid nn lo hi p start fin) (hlo : mid < m ∧ nn = b + lo ∧ hi = mid ∨ ¬ mid < m ∧ lo = a ∧ hi = m)
    (hfind : ∃ y, itB (exec (evL T) itL none qbh) (qr [0, 1, 2, 3, 4, 18, 19, 20, 21, 22] true 1) ⟨[(0, .sl 0 g 0 n cl), (1, (ii a)), (2, (ii m)), (3, (ii b)), (4, (.fn (.func qu) [] [])), (18, (ii mid)), (19, (ii nn)), (20, (ii lo)), (21, (ii hi)), (22, (ii p))], []⟩ [.row 6 ((D).map Evt.r) g] = some y ∧
      (y.1 = .exit 8 ∧ y.2.1.marks = [] ∧ y.2.2 = [.row 6 ((D).map Evt.r) g] ∧ Ev.look y.2.1.vars 0 = some (.sl 0 g 0 n cl) ∧ Ev.look y.2.1.vars 1 = some (ii a) ∧ Ev.look y.2.1.vars 2 = some (ii m) ∧ Ev.look y.2.1.vars 3 = some (ii b) ∧ Ev.look y.2.1.vars 4 = some (.fn (.func qu) [] []) ∧ Ev.look y.2.1.vars 18 = some (ii mid) ∧
        Ev.look y.2.1.vars 19 = some (ii nn) ∧ Ev.look y.2.1.vars 20 = some (ii start)))
    (s1 : start < m → m < fin → (evL T).call qbk [.sl 0 g 0 n cl, (ii start), (ii m), (ii fin), (.fn (.func qu) [] [])] [.row 6 ((D).map Evt.r) g] = some (.tup [], [.row 6 ((D2).map Evt.r) g])) (n1 : ¬ (start < m ∧ m < fin) → D2 = D)
    (s2 : a < start → start < mid → qbg g cl n a start mid D2 D3) (n2 : ¬ (a < start ∧ start < mid) → D3 = D2)
    (s3 : mid < fin → fin < b → qbg g cl n mid fin b D3 D4) (n3 : ¬ (mid < fin ∧ fin < b) → D4 = D3) : qbg g cl n a m b D D4 := by
  rcases hlo with ⟨g1, g2, rfl⟩ | ⟨g1, rfl, rfl⟩
  · rcases Classical.em (start < m) with d1 | d1 <;> rcases Classical.em (m < fin) with d2 | d2 <;> rcases Classical.em (a < start) with d3 | d3 <;> rcases Classical.em (fin < b) with d4 | d4
    · exact q0t g cl n x1 x2 y1 y2 a m b hi nn lo hi p start fin D D2 D3 D4 N g1 g2 d1 d2 d3 d4 hfind ⟨s1, n1, s2, n2, s3, n3⟩
    · exact q1g g cl n x1 x2 y1 y2 a m b hi nn lo hi p start fin D D2 D3 D4 N g1 g2 d1 d2 d3 d4 hfind ⟨s1, n1, s2, n2, s3, n3⟩
    · exact q0v g cl n x1 x2 y1 y2 a m b hi nn lo hi p start fin D D2 D3 D4 N g1 g2 d1 d2 d3 d4 hfind ⟨s1, n1, s2, n2, s3, n3⟩
    · exact qz8 g cl n x1 x2 y1 y2 a m b hi nn lo hi p start fin D D2 D3 D4 N g1 g2 d1 d2 d3 d4 hfind ⟨s1, n1, s2, n2, s3, n3⟩
    · exact qzm g cl n x1 x2 y1 y2 a m b hi nn lo hi p start fin D D2 D3 D4 N g1 g2 d1 d2 d3 d4 hfind ⟨s1, n1, s2, n2, s3, n3⟩
    · exact q1c g cl n x1 x2 y1 y2 a m b hi nn lo hi p start fin D D2 D3 D4 N g1 g2 d1 d2 d3 d4 hfind ⟨s1, n1, s2, n2, s3, n3⟩
    · exact qzu g cl n x1 x2 y1 y2 a m b hi nn lo hi p start fin D D2 D3 D4 N g1 g2 d1 d2 d3 d4 hfind ⟨s1, n1, s2, n2, s3, n3⟩
    · exact q0g g cl n x1 x2 y1 y2 a m b hi nn lo hi p start fin D D2 D3 D4 N g1 g2 d1 d2 d3 d4 hfind ⟨s1, n1, s2, n2, s3, n3⟩
    · exact q12 g cl n x1 x2 y1 y2 a m b hi nn lo hi p start fin D D2 D3 D4 N g1 g2 d1 d2 d3 d4 hfind ⟨s1, n1, s2, n2, s3, n3⟩
    · exact q1m g cl n x1 x2 y1 y2 a m b hi nn lo hi p start fin D D2 D3 D4 N g1 g2 d1 d2 d3 d4 hfind ⟨s1, n1, s2, n2, s3, n3⟩
    · exact q1n g cl n x1 x2 y1 y2 a m b hi nn lo hi p start fin D D2 D3 D4 N g1 g2 d1 d2 d3 d4 hfind ⟨s1, n1, s2, n2, s3, n3⟩
    · exact q0p g cl n x1 x2 y1 y2 a m b hi nn lo hi p start fin D D2 D3 D4 N g1 g2 d1 d2 d3 d4 hfind ⟨s1, n1, s2, n2, s3, n3⟩
    · exact q0f g cl n x1 x2 y1 y2 a m b hi nn lo hi p start fin D D2 D3 D4 N g1 g2 d1 d2 d3 d4 hfind ⟨s1, n1, s2, n2, s3, n3⟩
    · exact q1a g cl n x1 x2 y1 y2 a m b hi nn lo hi p start fin D D2 D3 D4 N g1 g2 d1 d2 d3 d4 hfind ⟨s1, n1, s2, n2, s3, n3⟩
    · exact q0n g cl n x1 x2 y1 y2 a m b hi nn lo hi p start fin D D2 D3 D4 N g1 g2 d1 d2 d3 d4 hfind ⟨s1, n1, s2, n2, s3, n3⟩
    · exact q07 g cl n x1 x2 y1 y2 a m b hi nn lo hi p start fin D D2 D3 D4 N g1 g2 d1 d2 d3 d4 hfind ⟨s1, n1, s2, n2, s3, n3⟩
  · rcases Classical.em (start < hi) with d1 | d1 <;> rcases Classical.em (hi < fin) with d2 | d2 <;> rcases Classical.em (lo < start) with d3 | d3 <;> rcases Classical.em (fin < b) with d4 | d4
    · exact q1u g cl n x1 x2 y1 y2 lo hi b mid nn lo hi p start fin D D2 D3 D4 N g1 d1 d2 d3 d4 hfind ⟨s1, n1, s2, n2, s3, n3⟩
    · exact q0k g cl n x1 x2 y1 y2 lo hi b mid nn lo hi p start fin D D2 D3 D4 N g1 d1 d2 d3 d4 hfind ⟨s1, n1, s2, n2, s3, n3⟩
    · exact q1b g cl n x1 x2 y1 y2 lo hi b mid nn lo hi p start fin D D2 D3 D4 N g1 d1 d2 d3 d4 hfind ⟨s1, n1, s2, n2, s3, n3⟩
    · exact qzw g cl n x1 x2 y1 y2 lo hi b mid nn lo hi p start fin D D2 D3 D4 N g1 d1 d2 d3 d4 hfind ⟨s1, n1, s2, n2, s3, n3⟩
    · exact qz9 g cl n x1 x2 y1 y2 lo hi b mid nn lo hi p start fin D D2 D3 D4 N g1 d1 d2 d3 d4 hfind ⟨s1, n1, s2, n2, s3, n3⟩
    · exact q1z g cl n x1 x2 y1 y2 lo hi b mid nn lo hi p start fin D D2 D3 D4 N g1 d1 d2 d3 d4 hfind ⟨s1, n1, s2, n2, s3, n3⟩
    · exact q08 g cl n x1 x2 y1 y2 lo hi b mid nn lo hi p start fin D D2 D3 D4 N g1 d1 d2 d3 d4 hfind ⟨s1, n1, s2, n2, s3, n3⟩
    · exact q06 g cl n x1 x2 y1 y2 lo hi b mid nn lo hi p start fin D D2 D3 D4 N g1 d1 d2 d3 d4 hfind ⟨s1, n1, s2, n2, s3, n3⟩
    · exact qzn g cl n x1 x2 y1 y2 lo hi b mid nn lo hi p start fin D D2 D3 D4 N g1 d1 d2 d3 d4 hfind ⟨s1, n1, s2, n2, s3, n3⟩
    · exact q1o g cl n x1 x2 y1 y2 lo hi b mid nn lo hi p start fin D D2 D3 D4 N g1 d1 d2 d3 d4 hfind ⟨s1, n1, s2, n2, s3, n3⟩
    · exact q1q g cl n x1 x2 y1 y2 lo hi b mid nn lo hi p start fin D D2 D3 D4 N g1 d1 d2 d3 d4 hfind ⟨s1, n1, s2, n2, s3, n3⟩
    · exact q0c g cl n x1 x2 y1 y2 lo hi b mid nn lo hi p start fin D D2 D3 D4 N g1 d1 d2 d3 d4 hfind ⟨s1, n1, s2, n2, s3, n3⟩
    · exact qz0 g cl n x1 x2 y1 y2 lo hi b mid nn lo hi p start fin D D2 D3 D4 N g1 d1 d2 d3 d4 hfind ⟨s1, n1, s2, n2, s3, n3⟩
    · exact q14 g cl n x1 x2 y1 y2 lo hi b mid nn lo hi p start fin D D2 D3 D4 N g1 d1 d2 d3 d4 hfind ⟨s1, n1, s2, n2, s3, n3⟩
    · exact qz5 g cl n x1 x2 y1 y2 lo hi b mid nn lo hi p start fin D D2 D3 D4 N g1 d1 d2 d3 d4 hfind ⟨s1, n1, s2, n2, s3, n3⟩
    · exact q00 g cl n x1 x2 y1 y2 lo hi b mid nn lo hi p start fin D D2 D3 D4 N g1 d1 d2 d3 d4 hfind ⟨s1, n1, s2, n2, s3, n3⟩
end
set_option maxRecDepth 10000
section
variable (g : Nat) (cl : Bool) (n : Nat)
theorem q0e (hb : n < 2 ^ 61) : ∀ (k : Nat) (P X Y Q : List Evt), X.length + Y.length ≤ k → 0 < X.length → 0 < Y.length → X.Pairwise leE → Y.Pairwise leE → n = (P ++ (X ++ (Y ++ Q))).length → qgo (P ++ (X ++ (Y ++ Q))) →
    ∀ a m b : Nat, a = P.length → m = a + X.length → b = m + Y.length → ∃ Z : List Evt, Z.Perm (X ++ Y) ∧ Z.Pairwise leE ∧ qbg g cl n a m b (P ++ (X ++ (Y ++ Q))) (P ++ (Z ++ Q)) := by
  intro k
  induction k with
  | zero => intro P X Y Q h1 h2 h3; omega
  | succ k ih =>
    intro P X Y Q hk hX0 hY0 hX hY hn hkeys a m b ha hm hbb
    by_cases hx : X.length = 1
    · obtain ⟨x, rfl⟩ := List.length_eq_one_iff.1 hx
      simp only [List.cons_append, List.nil_append, List.length_cons, List.length_nil] at hn hkeys hm ⊢
      exact q8x g cl n P Y Q x hY hY0 hn hb hkeys a m b ha hm hbb
    by_cases hy : Y.length = 1
    · obtain ⟨y, rfl⟩ := List.length_eq_one_iff.1 hy
      simp only [List.cons_append, List.nil_append, List.length_cons, List.length_nil] at hn hkeys hbb ⊢
      exact q9t g cl n P X Q y hX (by omega) hn hb hkeys a m b ha hm hbb
    have hlen : n = P.length + (X.length + (Y.length + Q.length)) := by rw [hn]; simp
    obtain ⟨mid, hmid⟩ : ∃ mid, mid = (a + b) / 2 := ⟨_, rfl⟩
    obtain ⟨nn, hnn⟩ : ∃ nn, nn = mid + m := ⟨_, rfl⟩
    obtain ⟨p, hp⟩ : ∃ p, nn = p + 1 := ⟨nn - 1, by omega⟩
    obtain ⟨lo, hi, hlo⟩ : ∃ lo hi, mid < m ∧ nn = b + lo ∧ hi = mid ∨ ¬ mid < m ∧ lo = a ∧ hi = m := by
      by_cases c : mid < m
      · exact ⟨nn - b, mid, .inl ⟨c, by omega, rfl⟩⟩
      · exact ⟨a, m, .inr ⟨c, rfl, rfl⟩⟩
    obtain ⟨y, f1, start, f2, f3, f4, f5, f6, f7, f8, f9, f10, f11, f12, f13, f14, f15, f16⟩ := q7b g cl n (P ++ (X ++ (Y ++ Q))) hn hb hkeys a m b mid nn p lo hi hp (by omega) (fun c h1 h2 => by omega) (by omega) (by omega)
    obtain ⟨fin, hfin⟩ : ∃ fin, nn = start + fin := ⟨nn - start, by omega⟩
    obtain ⟨X1, X2, rfl, hX1⟩ : ∃ X1 X2, X = X1 ++ X2 ∧ X1.length = start - a := ⟨X.take (start - a), X.drop (start - a), (List.take_append_drop _ _).symm, by simp; omega⟩
    obtain ⟨Y1, Y2, rfl, hY1⟩ : ∃ Y1 Y2, Y = Y1 ++ Y2 ∧ Y1.length = fin - m := ⟨Y.take (fin - m), Y.drop (fin - m), (List.take_append_drop _ _).symm, by simp; omega⟩
    simp only [List.length_append] at hk hX0 hY0 hx hy hm hbb hlen
    obtain ⟨x1, x2, x3⟩ := List.pairwise_append.1 hX
    obtain ⟨y1, y2, y3⟩ := List.pairwise_append.1 hY
    have hst : start = a + X1.length := by omega
    have hfi : fin = m + Y1.length := by omega
    have N : Nums n X1.length X2.length Y1.length Y2.length a m b mid nn lo hi p start fin := ⟨by omega, by omega, hb, hmid, hnn, hp, hfin, hm, hbb, by omega, hst, hfi⟩
    simp only [List.append_assoc] at f1 f4 f15 f16 hn hkeys ⊢
    have hk2 : qgo (P ++ (X1 ++ (Y1 ++ (X2 ++ (Y2 ++ Q))))) := by
      intro z hz; refine hkeys z ?_
      simp only [List.mem_append] at hz ⊢
      rcases hz with h | h | h | h | h | h
      · exact .inl h
      · exact .inr (.inl h)
      · exact .inr (.inr (.inr (.inl h)))
      · exact .inr (.inr (.inl h))
      · exact .inr (.inr (.inr (.inr (.inl h))))
      · exact .inr (.inr (.inr (.inr (.inr h))))
    obtain ⟨Z1, p1, q1, s2, n2⟩ : ∃ Z1 : List Evt, Z1.Perm (X1 ++ Y1) ∧ Z1.Pairwise leE ∧ (a < start → start < mid → qbg g cl n a start mid (P ++ (X1 ++ (Y1 ++ (X2 ++ (Y2 ++ Q))))) (P ++ (Z1 ++ (X2 ++ (Y2 ++ Q))))) ∧ (¬ (a < start ∧ start < mid) → P ++ (Z1 ++ (X2 ++ (Y2 ++ Q))) = P ++ (X1 ++ (Y1 ++ (X2 ++ (Y2 ++ Q))))) := by
      by_cases c : a < start ∧ start < mid
      · obtain ⟨Z, p1, q1, r1⟩ := ih P X1 Y1 (X2 ++ (Y2 ++ Q)) (by omega) (by omega) (by omega) x1 y1 (by rw [hlen]; simp; omega) hk2 a start mid ha hst (by omega)
        exact ⟨Z, p1, q1, fun _ _ => r1, fun h => absurd c h⟩
      · refine ⟨X1 ++ Y1, .refl _, ?_, fun h1 h2 => absurd ⟨h1, h2⟩ c, fun _ => by simp⟩
        by_cases c1 : a < start
        · rw [show Y1 = [] from List.eq_nil_of_length_eq_zero (by omega), List.append_nil]; exact x1
        · rw [show X1 = [] from List.eq_nil_of_length_eq_zero (by omega), List.nil_append]; exact y1
    have lz := p1.length_eq
    rw [List.length_append] at lz
    have hk3 : qgo (P ++ Z1 ++ (X2 ++ (Y2 ++ Q))) := by
      intro z hz; refine hk2 z ?_
      have := p1.mem_iff (a := z)
      simp only [List.mem_append] at hz this ⊢
      rcases hz with (h | h) | h
      · exact .inl h
      · rcases this.1 h with h | h
        · exact .inr (.inl h)
        · exact .inr (.inr (.inl h))
      · exact .inr (.inr (.inr h))
    obtain ⟨Z2, p2, q2, s3, n3⟩ : ∃ Z2 : List Evt, Z2.Perm (X2 ++ Y2) ∧ Z2.Pairwise leE ∧ (mid < fin → fin < b → qbg g cl n mid fin b (P ++ (Z1 ++ (X2 ++ (Y2 ++ Q)))) (P ++ (Z1 ++ (Z2 ++ Q)))) ∧ (¬ (mid < fin ∧ fin < b) → P ++ (Z1 ++ (Z2 ++ Q)) = P ++ (Z1 ++ (X2 ++ (Y2 ++ Q)))) := by
      by_cases c : mid < fin ∧ fin < b
      · obtain ⟨Z, p2, q2, r2⟩ := ih (P ++ Z1) X2 Y2 Q (by omega) (by omega) (by omega) x2 y2 (by rw [hlen]; simp; omega) hk3 mid fin b (by simp; omega) (by omega) (by omega)
        simp only [List.append_assoc] at r2
        exact ⟨Z, p2, q2, fun _ _ => r2, fun h => absurd c h⟩
      · refine ⟨X2 ++ Y2, .refl _, ?_, fun h1 h2 => absurd ⟨h1, h2⟩ c, fun _ => by simp⟩
        by_cases c1 : mid < fin
        · rw [show Y2 = [] from List.eq_nil_of_length_eq_zero (by omega), List.append_nil]; exact x2
        · rw [show X2 = [] from List.eq_nil_of_length_eq_zero (by omega), List.nil_append]; exact y2
    have ms := q68 qof hX hY (Z1 := Z1) (Z2 := Z2) ?_ ?_ p1 p2 q1 q2
    · refine ⟨Z1 ++ Z2, by simpa using ms.1, ms.2, ?_⟩
      simp only [List.append_assoc]
      refine qaap g cl n X1.length X2.length Y1.length Y2.length a m b mid nn lo hi p start fin _ _ _ _ N hlo ⟨y, f1, f2, f3, f4, f5, f6, f7, f8, f9, f10, f11, f12⟩ ?_ ?_ s2 n2 s3 n3
      · intro c1 c2
        have r := qabt g cl n (P ++ X1) X2 Y1 (Y2 ++ Q) (by omega) (by omega) (by rw [hlen]; simp; omega) hb start m fin (by simp; omega) (by omega) (by omega)
        simpa only [List.append_assoc] using r
      · intro c
        by_cases c1 : start < m
        · rw [show Y1 = [] from List.eq_nil_of_length_eq_zero (by omega)]; simp
        · rw [show X2 = [] from List.eq_nil_of_length_eq_zero (by omega)]; simp
    · intro u v hu hv
      have hlt : X1.length - 1 < X1.length := (List.getElem?_eq_some_iff.1 hu).1
      have hlt2 : 0 < Y2.length := (List.getElem?_eq_some_iff.1 hv).1
      rcases f15 with h | h
      · omega
      · refine h u v ?_ ?_
        · rw [← hu]; exact qx0 (L := P) (X := X1) (M := X2 ++ (Y1 ++ (Y2 ++ Q))) rfl hlt (by omega)
        · rw [← hv]; exact qx0 (L := P ++ (X1 ++ (X2 ++ Y1))) (X := Y2) (M := Q) (by simp) hlt2 (by simp; omega)
    · intro u v hu hv
      have hlt : Y1.length - 1 < Y1.length := (List.getElem?_eq_some_iff.1 hu).1
      have hlt2 : 0 < X2.length := (List.getElem?_eq_some_iff.1 hv).1
      rcases f16 with h | h
      · omega
      · refine h u v ?_ ?_
        · rw [← hu]; exact qx0 (L := P ++ (X1 ++ X2)) (X := Y1) (M := Y2 ++ Q) (by simp) hlt (by simp; omega)
        · rw [← hv]; exact qx0 (L := P ++ X1) (X := X2) (M := Y1 ++ (Y2 ++ Q)) (by simp) hlt2 (by simp; omega)
end
set_option maxRecDepth 10000
theorem q8e {a : Nat} (h : a < 2 ^ 61) : IntKind.i64.wrap (2 * (a : Int)) = ((2 * a : Nat) : Int) := by rw [qao (by omega) (by omega)]; omega
theorem qabn {a : Nat} (h : a < 2 ^ 61) : IntKind.i64.wrap ((a : Int) * 2) = ((2 * a : Nat) : Int) := by rw [qao (by omega) (by omega)]; omega
section
variable (g : Nat) (cl : Bool) (n : Nat)
theorem qaba (l : List Evt) (hn : n = l.length) (hb : n < 2 ^ 58) (hk : qgo l) :
    ∃ y, itB (exec (evL T) itL none qcf) (qr [0, 1, 2, 6, 7, 8] true 1) ⟨[(0, .sl 0 g 0 n cl), (1, (ii n)), (2, (.fn (.func qu) [] [])), (6, (ii 20)), (7, (ii 0)), (8, (ii 20))], []⟩ [.row 6 ((l).map Evt.r) g] = some y ∧
      ∃ a : Nat, y.1 = .exit 0 ∧ y.2.1.marks = [] ∧ Ev.look y.2.1.vars 0 = some (.sl 0 g 0 n cl) ∧ Ev.look y.2.1.vars 1 = some (ii n) ∧ Ev.look y.2.1.vars 2 = some (.fn (.func qu) [] []) ∧ Ev.look y.2.1.vars 6 = some (ii 20) ∧ Ev.look y.2.1.vars 7 = some (ii a) ∧
        ∃ Dn Rs : List Evt, y.2.2 = [.row 6 ((Dn ++ Rs).map Evt.r) g] ∧ a = Dn.length ∧ (Dn ++ Rs).Perm l ∧ Rs.length < 20 ∧ ∀ t, Blk leE 20 t → Blk leE 20 (Dn ++ t) := by
  have key := qjn (f := exec (evL T) itL none qcf) (s := qr [0, 1, 2, 6, 7, 8] true 1) (τ := List Evt × Nat)
    (fun s => ⟨[(0, .sl 0 g 0 n cl), (1, (ii n)), (2, (.fn (.func qu) [] [])), (6, (ii 20)), (7, (ii s.2)), (8, (ii ((s.2 + 20 : Nat))))], []⟩) (fun s => [.row 6 ((s.1).map Evt.r) g]) (fun s => n + 20 - s.2)
    (fun s => ∃ Dn Rs, s.1 = Dn ++ Rs ∧ s.2 = Dn.length ∧ (Dn ++ Rs).Perm l ∧ ∀ t, Blk leE 20 t → Blk leE 20 (Dn ++ t))
    (fun y => ∃ a : Nat, y.1 = .exit 0 ∧ y.2.1.marks = [] ∧ Ev.look y.2.1.vars 0 = some (.sl 0 g 0 n cl) ∧ Ev.look y.2.1.vars 1 = some (ii n) ∧ Ev.look y.2.1.vars 2 = some (.fn (.func qu) [] []) ∧ Ev.look y.2.1.vars 6 = some (ii 20) ∧ Ev.look y.2.1.vars 7 = some (ii a) ∧
        ∃ Dn Rs : List Evt, y.2.2 = [.row 6 ((Dn ++ Rs).map Evt.r) g] ∧ a = Dn.length ∧ (Dn ++ Rs).Perm l ∧ Rs.length < 20 ∧ ∀ t, Blk leE 20 t → Blk leE 20 (Dn ++ t)) ?_ (l, 0) ⟨[], l, rfl, rfl, .refl _, fun t h => h⟩
  · exact key
  rintro ⟨D, a⟩ ⟨Dn, Rs, hD, ha, hp, hB⟩
  simp only at hD ha ⊢
  have hl := hp.length_eq
  rw [List.length_append] at hl
  by_cases c : a + 20 ≤ n
  case neg =>
    have h1 : ¬ ((a + 20 : Nat) : Int) ≤ (n : Int) := by omega
    right
    simp only [qcf, h1, Ev.exec, qb, qe, qc, qag, Ev.Opnd.ev, Ev.Env.get, Ev.Env.set, Ev.look, qku, ↓qq, Ev.it1, ↓reduceIte, Nat.reduceEqDiff, reduceCtorEq, decide_false, zfa, eq_self]
    exact ⟨_, rfl, a, rfl, rfl, rfl, rfl, rfl, rfl, rfl, Dn, Rs, by rw [hD], ha, hp, by omega, hB⟩
  have h1 : ((a + 20 : Nat) : Int) ≤ (n : Int) := by omega
  obtain ⟨S, Q, rfl, hS⟩ : ∃ S Q, Rs = S ++ Q ∧ S.length = 20 := ⟨Rs.take 20, Rs.drop 20, (List.take_append_drop _ _).symm, by simp; omega⟩
  rw [List.length_append] at hl
  have hkD : qgo (Dn ++ (S ++ Q)) := hk.perm hp
  obtain ⟨S', p1, q1, r1⟩ := qx4 g cl n Dn S Q (by simp; omega) (by omega) hkD a (a + 20) ha (by omega)
  have w1 : IntKind.i64.wrap (((a + 20 : Nat) : Int) + 20) = ((a + 20 + 20 : Nat) : Int) := by rw [qao (by omega) (by omega)]; omega
  rw [← hD] at r1
  left
  refine ⟨(Dn ++ (S' ++ Q), a + 20), ?_, ⟨Dn ++ S', Q, by simp, ?_, ?_, ?_⟩, by simp only; omega⟩
  · simp only [qcf, h1, w1, r1, qac, Ev.exec, qb, qe, qc, qd2, qag, Ev.evs, Ev.Opnd.ev, Ev.Env.get, Ev.Env.set, Ev.look, qaj, qku, qr, Ev.keep, qai, qy, qd, Ev.SObj.lo, qay, qb2, qdj, qj, ↓qq, Ev.it1, ↓reduceIte, List.take_succ_cons, zfe, Nat.reduceEqDiff, reduceCtorEq, decide_true, zfc, and_self, Nat.lt_add_one, eq_self]
  · have := p1.length_eq; simp; omega
  · rw [List.append_assoc]; exact (List.Perm.append_left Dn (p1.append_right Q)).trans hp
  · intro t ht
    rw [List.append_assoc]
    exact hB _ (.more (by rw [p1.length_eq]; exact hS) q1 ht)
theorem qaa7 (l D0 : List Evt) (hn : n = l.length) (hb : n < 2 ^ 58) (hk : qgo l) (s : Nat) (hs : 0 < s) (hsn : s < n) (hp0 : D0.Perm l) (hB0 : Blk leE s D0) :
    ∃ y, itB (exec (evL T) itL none qcg) (qr [0, 1, 2, 6, 7, 8] true 1) ⟨[(0, .sl 0 g 0 n cl), (1, (ii n)), (2, (.fn (.func qu) [] [])), (6, (ii s)), (7, (ii 0)), (8, (ii ((2 * s : Nat))))], []⟩ [.row 6 ((D0).map Evt.r) g] = some y ∧
      ∃ a : Nat, y.1 = .exit 4 ∧ y.2.1.marks = [] ∧ Ev.look y.2.1.vars 0 = some (.sl 0 g 0 n cl) ∧ Ev.look y.2.1.vars 1 = some (ii n) ∧ Ev.look y.2.1.vars 2 = some (.fn (.func qu) [] []) ∧ Ev.look y.2.1.vars 6 = some (ii s) ∧ Ev.look y.2.1.vars 7 = some (ii a) ∧
        ∃ Dn Rs : List Evt, y.2.2 = [.row 6 ((Dn ++ Rs).map Evt.r) g] ∧ a = Dn.length ∧ (Dn ++ Rs).Perm l ∧ Rs.length < 2 * s ∧ Blk leE s Rs ∧ ∀ t, Blk leE (2 * s) t → Blk leE (2 * s) (Dn ++ t) := by
  have key := qjn (f := exec (evL T) itL none qcg) (s := qr [0, 1, 2, 6, 7, 8] true 1) (τ := List Evt × Nat)
    (fun z => ⟨[(0, .sl 0 g 0 n cl), (1, (ii n)), (2, (.fn (.func qu) [] [])), (6, (ii s)), (7, (ii z.2)), (8, (ii ((z.2 + 2 * s : Nat))))], []⟩) (fun z => [.row 6 ((z.1).map Evt.r) g]) (fun z => n + 2 * s - z.2)
    (fun z => ∃ Dn Rs, z.1 = Dn ++ Rs ∧ z.2 = Dn.length ∧ (Dn ++ Rs).Perm l ∧ Blk leE s Rs ∧ ∀ t, Blk leE (2 * s) t → Blk leE (2 * s) (Dn ++ t))
    (fun y => ∃ a : Nat, y.1 = .exit 4 ∧ y.2.1.marks = [] ∧ Ev.look y.2.1.vars 0 = some (.sl 0 g 0 n cl) ∧ Ev.look y.2.1.vars 1 = some (ii n) ∧ Ev.look y.2.1.vars 2 = some (.fn (.func qu) [] []) ∧ Ev.look y.2.1.vars 6 = some (ii s) ∧ Ev.look y.2.1.vars 7 = some (ii a) ∧
        ∃ Dn Rs : List Evt, y.2.2 = [.row 6 ((Dn ++ Rs).map Evt.r) g] ∧ a = Dn.length ∧ (Dn ++ Rs).Perm l ∧ Rs.length < 2 * s ∧ Blk leE s Rs ∧ ∀ t, Blk leE (2 * s) t → Blk leE (2 * s) (Dn ++ t)) ?_ (D0, 0) ⟨[], D0, rfl, rfl, hp0, hB0, fun t h => h⟩
  · simp only [zfd] at key; exact key
  rintro ⟨D, a⟩ ⟨Dn, Rs, hD, ha, hp, hR, hB⟩
  simp only at hD ha ⊢
  have hl := hp.length_eq
  rw [List.length_append] at hl
  by_cases c : a + 2 * s ≤ n
  case neg =>
    have h1 : ¬ ((a + 2 * s : Nat) : Int) ≤ (n : Int) := by omega
    right
    simp only [qcg, h1, Ev.exec, qb, qe, qc, qag, Ev.Opnd.ev, Ev.Env.get, Ev.Env.set, Ev.look, qku, ↓qq, Ev.it1, ↓reduceIte, Nat.reduceEqDiff, reduceCtorEq, decide_false, zfa, eq_self]
    exact ⟨_, rfl, a, rfl, rfl, rfl, rfl, rfl, rfl, rfl, Dn, Rs, by rw [hD], ha, hp, by omega, hR, hB⟩
  have h1 : ((a + 2 * s : Nat) : Int) ≤ (n : Int) := by omega
  obtain ⟨X, Y, Q, rfl, hX, hY, qX, qY, hQ⟩ : ∃ X Y Q, Rs = X ++ (Y ++ Q) ∧ X.length = s ∧ Y.length = s ∧ X.Pairwise leE ∧ Y.Pairwise leE ∧ Blk leE s Q := by
    obtain ⟨X, R1, rfl, h2, h3, h4⟩ := hR.split (by omega)
    rw [List.length_append] at hl
    by_cases c2 : R1.length ≤ s
    · exact ⟨X, R1, [], by simp, h2, by omega, h3, h4.sorted c2, .nil⟩
    · obtain ⟨Y, Q, rfl, h5, h6, h7⟩ := h4.split (by omega)
      exact ⟨X, Y, Q, rfl, h2, h5, h3, h6, h7⟩
  rw [List.length_append, List.length_append] at hl
  have hkD : qgo (Dn ++ (X ++ (Y ++ Q))) := hk.perm hp
  obtain ⟨Z, p1, q1, r1⟩ := q0e g cl n (by omega) _ Dn X Y Q (Nat.le_refl _) (by omega) (by omega) qX qY (by simp; omega) hkD a (a + s) (a + 2 * s) ha (by omega) (by omega)
  have w1 : IntKind.i64.wrap ((a : Int) + (s : Int)) = ((a + s : Nat) : Int) := qmg (by omega)
  have w2 : IntKind.i64.wrap (2 * (s : Int)) = ((2 * s : Nat) : Int) := q8e (by omega)
  have w3 : IntKind.i64.wrap (((a + 2 * s : Nat) : Int) + ((2 * s : Nat) : Int)) = ((a + 2 * s + 2 * s : Nat) : Int) := qmg (by omega)
  unfold qbg at r1
  rw [← hD] at r1
  have hz := p1.length_eq
  rw [List.length_append] at hz
  left
  refine ⟨(Dn ++ (Z ++ Q), a + 2 * s), ?_, ⟨Dn ++ Z, Q, by simp, ?_, ?_, hQ, ?_⟩, by simp only; omega⟩
  · simp only [qcg, h1, w1, w2, w3, r1, qac, Ev.exec, qb, qe, qc, qd2, qag, Ev.evs, Ev.Opnd.ev, Ev.Env.get, Ev.Env.set, Ev.look, qaj, q6q, qku, qr, Ev.keep, qai, qy, qd, Ev.SObj.lo, qay, qb2, qdj, qj, ↓qq, Ev.it1, ↓reduceIte, List.take_succ_cons, zfe, Nat.reduceEqDiff, reduceCtorEq, decide_true, zfc, and_self, Nat.lt_add_one, eq_self]
  · simp; omega
  · rw [List.append_assoc]
    refine (List.Perm.append_left Dn (p1.append_right Q)).trans ?_
    rw [List.append_assoc]; exact hp
  · intro t ht
    rw [List.append_assoc]
    exact hB _ (.more (by omega) q1 ht)
theorem qabx (l D0 : List Evt) (hn : n = l.length) (hb : n < 2 ^ 58) (hk : qgo l) (hp0 : D0.Perm l) (hB0 : Blk leE 20 D0) :
    ∃ y, itB (exec (evL T) itL none qby) (qr [0, 1, 2, 6] true 1) ⟨[(0, .sl 0 g 0 n cl), (1, (ii n)), (2, (.fn (.func qu) [] [])), (6, (ii 20))], []⟩ [.row 6 ((D0).map Evt.r) g] = some y ∧
      (y.1 = .exit 2 ∧ y.2.1.marks = [] ∧ ∃ l' : List Evt, y.2.2 = [.row 6 ((l').map Evt.r) g] ∧ l'.Perm l ∧ l'.Pairwise leE) := by
  have key := qjn (f := exec (evL T) itL none qby) (s := qr [0, 1, 2, 6] true 1) (τ := List Evt × Nat)
    (fun z => ⟨[(0, .sl 0 g 0 n cl), (1, (ii n)), (2, (.fn (.func qu) [] [])), (6, (ii z.2))], []⟩) (fun z => [.row 6 ((z.1).map Evt.r) g]) (fun z => n - z.2)
    (fun z => z.1.Perm l ∧ 0 < z.2 ∧ Blk leE z.2 z.1)
    (fun y => y.1 = .exit 2 ∧ y.2.1.marks = [] ∧ ∃ l' : List Evt, y.2.2 = [.row 6 ((l').map Evt.r) g] ∧ l'.Perm l ∧ l'.Pairwise leE) ?_ (D0, 20) ⟨hp0, by simp, hB0⟩
  · exact key
  rintro ⟨D, s⟩ ⟨hp, hs, hB⟩
  simp only at hp hs hB ⊢
  have hl := hp.length_eq
  by_cases c : s < n
  case neg =>
    have h1 : ¬ (s : Int) < (n : Int) := by omega
    right
    simp only [qby, h1, Ev.exec, qb, qe, qc, qag, Ev.Opnd.ev, Ev.Env.get, Ev.Env.set, Ev.look, qo, ↓qq, Ev.it1, ↓reduceIte, Nat.reduceEqDiff, reduceCtorEq, decide_false, zfa, eq_self]
    exact ⟨_, rfl, rfl, rfl, D, rfl, hp, hB.sorted (by omega)⟩
  have h1 : (s : Int) < (n : Int) := by omega
  obtain ⟨⟨y, e, σ⟩, k1, a, k2, k3, k4, k5, k6, k7, k8, Dn, Rs, k9, k10, k11, k12, k13, k14⟩ := qaa7 g cl n l D hn hb hk s hs c hp hB
  simp only at k1 k2 k3 k4 k5 k6 k7 k8 k9
  subst k2; subst k9
  have hl2 := k11.length_eq
  rw [List.length_append] at hl2
  have w1 : IntKind.i64.wrap ((a : Int) + (s : Int)) = ((a + s : Nat) : Int) := qmg (by omega)
  have w2 : IntKind.i64.wrap (2 * (s : Int)) = ((2 * s : Nat) : Int) := q8e (by omega)
  have w3 : IntKind.i64.wrap ((s : Int) * 2) = ((2 * s : Nat) : Int) := qabn (by omega)
  left
  by_cases c2 : a + s < n
  · have h2 : ((a + s : Nat) : Int) < (n : Int) := by omega
    obtain ⟨X, Y, rfl, hX, qX, hY⟩ := k13.split (by omega)
    rw [List.length_append] at hl2 k12
    have hkD : qgo (Dn ++ (X ++ (Y ++ []))) := by rw [List.append_nil]; exact hk.perm k11
    obtain ⟨Z, p1, q1, r1⟩ := q0e g cl n (by omega) _ Dn X Y [] (Nat.le_refl _) (by omega) (by omega) qX (hY.sorted (by omega)) (by simp; omega) hkD a (a + s) n k10 (by omega) (by omega)
    unfold qbg at r1
    simp only [List.append_nil] at r1
    have hz := p1.length_eq
    rw [List.length_append] at hz
    refine ⟨(Dn ++ Z, 2 * s), ?_, ⟨(List.Perm.append_left Dn p1).trans k11, by simp only; omega, k14 _ (.last (by omega) q1)⟩, by simp only; omega⟩
    simp only [qby, h1, h2, w1, w2, w3, k1, k3, k4, k5, k6, k7, k8, r1, qac, Ev.exec, qb, qe, qc, qd2, qag, Ev.evs, Ev.Opnd.ev, Ev.Env.get, Ev.Env.set, Ev.look, qaj, q6q, qo, qr, Ev.keep, qai, qy, qd, Ev.SObj.lo, qay, qb2, qdj, qj, ↓qq, ↓qak, Ev.it1, ↓reduceIte, List.length_cons, List.length_nil, List.take_succ_cons, zfe, Nat.reduceEqDiff, reduceCtorEq, decide_true, zfc, and_self, zfd, Nat.lt_add_one, eq_self]
  · have h2 : ¬ ((a + s : Nat) : Int) < (n : Int) := by omega
    refine ⟨(Dn ++ Rs, 2 * s), ?_, ⟨k11, by simp only; omega, k14 _ (.last (by omega) (k13.sorted (by omega)))⟩, by simp only; omega⟩
    simp only [qby, h1, h2, w1, w2, w3, k1, k3, k4, k5, k6, k7, k8, qac, Ev.exec, qb, qe, qc, qag, Ev.Opnd.ev, Ev.Env.get, Ev.Env.set, Ev.look, qaj, q6q, qo, qr, Ev.keep, qai, qy, qd, Ev.SObj.lo, qay, qb2, qdj, qj, ↓qq, ↓qak, Ev.it1, ↓reduceIte, List.length_cons, List.length_nil, List.take_succ_cons, zfe, Nat.reduceEqDiff, reduceCtorEq, decide_true, decide_false, zfc, zfa, and_self, zfd, Nat.lt_add_one, eq_self]
theorem qabm (l : List Evt) (hn : n = l.length) (hb : n < 2 ^ 58) (hk : qgo l) :
    ∃ l' : List Evt, l'.Perm l ∧ l'.Pairwise leE ∧ (evL T).call qb7 [.sl 0 g 0 n cl, (ii n), (.fn (.func qu) [] [])] [.row 6 ((l).map Evt.r) g] = some (.tup [], [.row 6 ((l').map Evt.r) g]) := by
  obtain ⟨⟨y, e, σ⟩, k1, a, k2, k3, k4, k5, k6, k7, k8, Dn, Rs, k9, k10, k11, k12, k13⟩ := qaba g cl n l hn hb hk
  simp only at k1 k2 k3 k4 k5 k6 k7 k8 k9
  subst k2; subst k9
  have hl := k11.length_eq
  rw [List.length_append] at hl
  obtain ⟨R', p1, q1, r1⟩ := qx4 g cl n Dn Rs [] (by simp; omega) (by omega) (by rw [List.append_nil]; exact hk.perm k11) a n k10 (by omega)
  simp only [List.append_nil] at r1
  obtain ⟨⟨y', e', σ'⟩, l1, l2, l3, l', l4, l5, l6⟩ := qabx g cl n l (Dn ++ R') hn hb hk ((List.Perm.append_left Dn p1).trans k11) (k13 _ (.last (by rw [p1.length_eq]; omega) q1))
  simp only at l1 l2 l3 l4
  subst l2; subst l4
  refine ⟨l', l5, l6, ?_⟩
  rw [qs qkt qkj]
  simp only [qdt, k1, k3, k4, k5, k6, k7, k8, r1, l1, l3, qac, qm, Ev.exec, qb, qe, qc, qd2, qag, Ev.evs, Ev.Opnd.ev, Ev.Env.get, Ev.Env.set, Ev.look, qn, ql, qae, Ev.kill, qad, qr, Ev.keep, qai, qy, qd, Ev.SObj.lo, qay, qbc, qb2, qdj, qj, ↓qq, ↓qak, ↓reduceIte, List.length_cons, List.length_nil, List.take_succ_cons, zfe, Nat.reduceAdd, Nat.reduceEqDiff, reduceCtorEq, decide_true, zfc, and_self, zfd, Nat.lt_add_one, eq_self]
theorem q45 (l : List Evt) (hn : n = l.length) (hb : n < 2 ^ 58) (hk : qgo l) :
    ∃ l' : List Evt, l'.Perm l ∧ l'.Pairwise leE ∧ (evL T).call qa7 [.sl 0 g 0 n cl, (.fn (.func qu) [] [])] [.row 6 ((l).map Evt.r) g] = some (.tup [], [.row 6 ((l').map Evt.r) g]) := by
  obtain ⟨l', h1, h2, h3⟩ := qabm g cl n l hn hb hk
  refine ⟨l', h1, h2, ?_⟩
  rw [qs qg5 qgt]
  simp only [qb0, h3, qac, qm, Ev.exec, qb, qe, qc, qd2, qag, Ev.evs, Ev.Opnd.ev, Ev.Env.get, Ev.Env.set, Ev.look, qn, ql, qae, Ev.kill, qad, qd, Ev.SObj.lo, qbc, qj, ↓qq, ↓reduceIte, List.length_cons, List.length_nil, List.take_succ_cons, zfe, Nat.reduceAdd, Nat.reduceEqDiff, reduceCtorEq, zfc, and_self, zfd, eq_self]
end
set_option maxRecDepth 10000
def qoj (l : List Evt) : List Evt := l.mergeSort (fun a b => decide (qv4 a b ≤ 0))
def q8w (l : List Evt) : Prop := l.Pairwise (fun a b => ¬ qv4 a b = 0)
theorem qlh (l : List Evt) : (qoj l).Perm l := List.mergeSort_perm _ _
theorem qs2 (l : List Evt) : (qoj l).Pairwise leE := by
  have := List.pairwise_mergeSort (le := fun a b => decide (qv4 a b ≤ 0)) (fun a b c h1 h2 => by simp only [decide_eq_true_eq] at h1 h2 ⊢; exact qof a b c h1 h2) (fun a b => by
    have := qtw a b
    by_cases h : qv4 a b ≤ 0
    · simp [h]
    · have : qv4 b a ≤ 0 := by omega
      simp [this]) l
  exact this.imp (fun h => of_decide_eq_true h)
theorem q8w.eq {l : List Evt} (h : q8w l) {a b : Evt} (ha : a ∈ l) (hb : b ∈ l) (hc : qv4 a b = 0) : a = b := by
  obtain ⟨i, hi⟩ := List.mem_iff_getElem?.1 ha
  obtain ⟨j, hj⟩ := List.mem_iff_getElem?.1 hb
  obtain ⟨hi', rfl⟩ := List.getElem?_eq_some_iff.1 hi
  obtain ⟨hj', rfl⟩ := List.getElem?_eq_some_iff.1 hj
  rw [q8w, List.pairwise_iff_getElem] at h
  rcases Nat.lt_trichotomy i j with c | c | c
  · exact absurd hc (h i j hi' hj' c)
  · subst c; rfl
  · exact absurd (by rw [qtw]; omega) (h j i hj' hi' c)
theorem qx5 {l l' : List Evt} (hd : q8w l) (hp : l'.Perm l) (hs : l'.Pairwise leE) : l' = qoj l := by
  refine List.Perm.eq_of_pairwise (le := leE) (fun a b ha hb h1 h2 => ?_) hs (qs2 l) (hp.trans (qlh l).symm)
  refine hd.eq (hp.mem_iff.1 ha) ((qlh l).mem_iff.1 hb) ?_
  have := qtw a b
  unfold leE at h1 h2; omega
theorem q8w.perm {l l' : List Evt} (h : q8w l) (p : l'.Perm l) : q8w l' := (p.pairwise_iff (fun {x y} hxy hyx => hxy (by rw [qtw]; omega))).2 h
theorem q30 (l : List Evt) (c : Bool) (h : l.length ≤ 1000000) : (evL T).call qb4 [(.fsl ((l).map Evt.r) c)] [] = some (.sl 0 0 0 l.length false, [.row 6 (l.map Evt.r) 0]) := by
  have h' : l.length * 64 ≤ 140737488355328 := by omega
  rw [q6o qi4]
  simp only [qvo, qac, qlv, h', qw, qj, qk, List.length_map, ↓reduceIte, Nat.reduceLT, Nat.reducePow, zfc, and_self, eq_self]
theorem qu6 (l : List Evt) (c : Bool) (h : l.length ≤ 1000000) (hk : qgo l) : ∃ l' : List Evt, l'.Perm l ∧ l'.Pairwise leE ∧ qaz (evL T) qen [(.fsl ((l).map Evt.r) c)] = some (.fsl ((l').map Evt.r) false) := by
  have hcl := q30 l c h
  obtain ⟨l', h1, h2, h3⟩ := q45 0 false l.length l rfl (by omega) hk
  refine ⟨l', h1, h2, ?_⟩
  have hlen := h1.length_eq
  rw [qaz, qs qt4 qtd]
  rw [← hlen] at hcl h3
  simp only [qjt, hcl, h3, qac, qm, Ev.exec, qb, qe, qc, qoo, qd2, q27, Ev.AV.shift, qag, Ev.evs, Ev.Opnd.ev, Ev.Env.get, Ev.Env.set, Ev.look, qn, ql, qx, qae, Ev.kill, qad, qd, qw, qb2, qj, qk, qlc, qik, qgx, qfc, qgj, q6b, List.length_map, ↓qq, ↓reduceIte, List.length_cons, List.length_nil, List.getElem?_cons_zero, List.take_zero, List.drop_zero, List.nil_append, Nat.reduceEqDiff, Nat.reduceLT, reduceCtorEq, decide_false, zfc, zfa, and_self, and_true, zfd, Nat.add_zero, Nat.le_refl, eq_self]
theorem qnf (l : List Evt) (c : Bool) (h : l.length ≤ 1000000) (hk : qgo l) (hd : q8w l) : qaz (evL T) qen [(.fsl ((l).map Evt.r) c)] = some (.fsl ((qoj l).map Evt.r) false) := by
  obtain ⟨l', h1, h2, h3⟩ := qu6 l c h hk
  rw [← qx5 hd h1 h2]; exact h3
theorem qsh (x y : Evt) (hx : x.key.length ≤ 9223372036854775807) (hy : y.key.length ≤ 9223372036854775807) : qaz (evL T) qfa [(.agg [(ii x.time), (.fsl ((x.key).map qcm) false), (ii x.lp), (ii x.kind), (ii x.proc), (ii x.arg)]), (.agg [(ii y.time), (.fsl ((y.key).map qcm) false), (ii y.lp), (ii y.kind), (ii y.proc), (ii y.arg)])] = some (ii (qv4 x y)) := by
  obtain ⟨xt, xk, xl, xi, xp, xa⟩ := x
  obtain ⟨yt, yk, yl, yi, yp, ya⟩ := y
  have hc := qna xt yt
  have hk := qua xk yk false false hx hy
  have hz := (qkd xt yt).2.1
  rw [qaz, qs qrs qrg]
  by_cases h : xt = yt
  · subst h
    have h0 : qrq xt xt = 0 := hz.2 rfl
    simp only [qf7, qv4, h0, hk, qar, qm, Ev.exec, qb, qe, qc, qaw, qag, Ev.evs, Ev.Opnd.ev, Ev.Env.get, Ev.Env.set, Ev.look, qn, qh, qab, Ev.AV.cells, qv, Ev.AV.plain, qax, ql, qx, qae, Ev.kill, qad, qd, qay, qw, qj, qk, qah, ↓qq, ↓reduceIte, List.length_cons, List.length_nil, zfe, List.drop_succ_cons, List.drop_zero, List.head?_cons, Nat.reduceAdd, Nat.reduceEqDiff, reduceCtorEq, decide_false, zfc, zfa, and_self, ne_eq, zfb, not_true_eq_false, zff, zfd, eq_self]
  · have h0 : ¬ qrq xt yt = 0 := fun e => h (hz.1 e)
    simp only [qf7, qv4, h0, h, hc, qm, Ev.exec, qb, qe, qc, qaw, qag, Ev.evs, Ev.Opnd.ev, Ev.Env.get, Ev.Env.set, Ev.look, qn, qh, qab, Ev.AV.cells, qv, Ev.AV.plain, qax, ql, qx, qae, Ev.kill, qad, qd, qay, qj, qk, qah, ↓qq, ↓reduceIte, List.length_cons, List.length_nil, zfe, List.drop_zero, List.head?_cons, Nat.reduceAdd, Nat.reduceEqDiff, reduceCtorEq, decide_true, zfc, zfa, and_self, ne_eq, zfb, zff, zfd, eq_self]
set_option maxRecDepth 10000
def qhg (k i : Nat) (s : Start) : Evt := ⟨s.time, [(k : Int), (i : Int)], k, 1, i, 0⟩
def qih (k : Nat) (l : List Start) : List Evt := l.mapIdx (fun i s => qhg k i s)
def qie (lps : List (List Start)) : List Evt := (lps.mapIdx (fun k l => qih k l)).flatten
theorem q66 (k : Nat) (l : List Start) (s : Start) : qih k (l ++ [s]) = qih k l ++ [qhg k l.length s] := by simp [qih, List.mapIdx_append]
theorem q84 (lps : List (List Start)) (l : List Start) : qie (lps ++ [l]) = qie lps ++ qih lps.length l := by simp [qie, List.mapIdx_append]
theorem qxu (k : Nat) (l : List Start) : (qih k l).length = l.length := by simp [qih]
theorem qqz {k : Nat} {l : List Start} {x : Evt} (h : x ∈ qih k l) : ∃ i s, l[i]? = some s ∧ x = qhg k i s := by
  simp only [qih] at h
  obtain ⟨i, hi⟩ := List.mem_iff_getElem?.1 h
  rw [List.getElem?_mapIdx] at hi
  cases hl : l[i]? with
  | none => rw [hl] at hi; cases hi
  | some s => rw [hl] at hi; cases hi; exact ⟨i, s, hl, rfl⟩
theorem qwe {lps : List (List Start)} {x : Evt} (h : x ∈ qie lps) : ∃ k l i s, lps[k]? = some l ∧ l[i]? = some s ∧ x = qhg k i s := by
  simp only [qie, List.mem_flatten] at h
  obtain ⟨r, hr, hx⟩ := h
  obtain ⟨k, hk⟩ := List.mem_iff_getElem?.1 hr
  rw [List.getElem?_mapIdx] at hk
  cases hl : lps[k]? with
  | none => rw [hl] at hk; cases hk
  | some l =>
    rw [hl] at hk; cases hk
    obtain ⟨i, s, h1, h2⟩ := qqz hx
    exact ⟨k, l, i, s, hl, h1, h2⟩
theorem q3c (lps : List (List Start)) : qgo (qie lps) := by
  intro x hx
  obtain ⟨k, l, i, s, _, _, rfl⟩ := qwe hx
  simp [qhg]
theorem q5k {k k' i i' : Nat} {s s' : Start} (h : qv4 (qhg k i s) (qhg k' i' s') = 0) : k = k' ∧ i = i' := by
  have := ((q1p _ _).1 h).2
  simp only [qhg, List.cons.injEq, and_true] at this
  omega
theorem q26 (lps : List (List Start)) : q8w (qie lps) := by
  unfold q8w qie
  rw [List.pairwise_flatten]
  constructor
  · intro r hr
    obtain ⟨k, hk⟩ := List.mem_iff_getElem?.1 hr
    rw [List.getElem?_mapIdx] at hk
    cases hl : lps[k]? with
    | none => rw [hl] at hk; cases hk
    | some l =>
      rw [hl] at hk; cases hk
      rw [List.pairwise_iff_getElem]
      intro i j hi hj hij h
      simp only [qih, List.getElem_mapIdx] at h
      have := (q5k h).2; omega
  · rw [List.pairwise_iff_getElem]
    intro k k' hk hk' hkk x hx y hy h
    simp only [List.getElem_mapIdx] at hx hy
    obtain ⟨i, s, _, rfl⟩ := qqz hx
    obtain ⟨i', s', _, rfl⟩ := qqz hy
    have := (q5k h).1; omega
theorem q1e {k i : Nat} {l : List Start} {s : Start} (h : l[i]? = some s) : qih k (l.take (i + 1)) = qih k (l.take i) ++ [qhg k i s] := by
  have hi : i < l.length := (List.getElem?_eq_some_iff.1 h).1
  rw [qea h, q66, List.length_take, Nat.min_eq_left (by omega)]
theorem qw5 {k : Nat} {lps : List (List Start)} {l : List Start} (h : lps[k]? = some l) : qie (lps.take (k + 1)) = qie (lps.take k) ++ qih k l := by
  have hi : k < lps.length := (List.getElem?_eq_some_iff.1 h).1
  rw [qea h, q84, List.length_take, Nat.min_eq_left (by omega)]
theorem q57 : ∀ {lps : List (List Start)} {m : Nat}, (∀ l ∈ lps, l.length ≤ m) → (qie lps).length ≤ lps.length * m := by
  intro lps m h
  have : ∀ n, n ≤ lps.length → (qie (lps.take n)).length ≤ n * m := by
    intro n
    induction n with
    | zero => intro _; simp [qie]
    | succ n ih =>
      intro hn
      obtain ⟨l, hl⟩ : ∃ l, lps[n]? = some l := ⟨_, List.getElem?_eq_getElem (by omega)⟩
      rw [qw5 hl, List.length_append, qxu, Nat.succ_mul]
      have := ih (by omega)
      have := h l (List.mem_of_getElem? hl)
      omega
  have := this lps.length (Nat.le_refl _)
  rwa [List.take_length] at this
section
variable (c : Cfg)
theorem qpx (out : List Evt) (e : List AV) : List.take out.length (out.map Evt.r) = out.map Evt.r ∧ List.take (out.length + 1) (out.map Evt.r ++ [e]) = out.map Evt.r ++ [e] := ⟨List.take_of_length_le (by simp), List.take_of_length_le (by simp)⟩
theorem q80 (k : Nat) (l : List Start) (o0 : List Evt) (g0 : Nat) (hl : l.length ≤ 12) (hk : k ≤ 12) (ho : o0.length ≤ 1000) (n : Int) :
    ∃ y, itB (exec (evL T) itL none qhc) (qr [3, 4, 9, 10, 11, 16, 17, 18] true 1) ⟨[(3, .sl 0 g0 0 o0.length false), (4, (ii k)), (9, (.fsl ((c.lps).map lpC) false)), (10, (ii n)), (11, (ii k)), (16, (.fsl ((l).map Start.r) false)), (17, (ii l.length)), (18, (ii 0))], []⟩ [.row 6 (o0.map Evt.r) g0] = some y ∧
      ∃ g : Nat, y.1 = .exit 2 ∧ y.2.1.marks = [] ∧ y.2.2 = [.row 6 ((o0 ++ qih k l).map Evt.r) g] ∧ Ev.look y.2.1.vars 3 = some (.sl 0 g 0 (o0 ++ qih k l).length false) ∧ Ev.look y.2.1.vars 9 = some (.fsl ((c.lps).map lpC) false) ∧ Ev.look y.2.1.vars 10 = some (ii n) ∧ Ev.look y.2.1.vars 11 = some (ii k) := by
  have key := qhi (f := exec (evL T) itL none qhc) (s := qr [3, 4, 9, 10, 11, 16, 17, 18] true 1) (α := List Evt × Nat)
    (fun i a => ⟨[(3, .sl 0 a.2 0 a.1.length false), (4, (ii k)), (9, (.fsl ((c.lps).map lpC) false)), (10, (ii n)), (11, (ii k)), (16, (.fsl ((l).map Start.r) false)), (17, (ii l.length)), (18, (ii i))], []⟩) (fun i a => [.row 6 (a.1.map Evt.r) a.2])
    (fun i a => a.1 = o0 ++ qih k (l.take i)) l.length
    (fun y => ∃ g : Nat, y.1 = .exit 2 ∧ y.2.1.marks = [] ∧ y.2.2 = [.row 6 ((o0 ++ qih k l).map Evt.r) g] ∧ Ev.look y.2.1.vars 3 = some (.sl 0 g 0 (o0 ++ qih k l).length false) ∧ Ev.look y.2.1.vars 9 = some (.fsl ((c.lps).map lpC) false) ∧ Ev.look y.2.1.vars 10 = some (ii n) ∧ Ev.look y.2.1.vars 11 = some (ii k)) ?_ ?_ 0 (o0, g0) (Nat.zero_le _) (by simp [qih])
  · exact key
  · rintro i ⟨out, g⟩ hi hout
    simp only at hout ⊢
    obtain ⟨x, hx⟩ : ∃ x, l[i]? = some x := ⟨_, List.getElem?_eq_getElem hi⟩
    have hi' : (i : Int) < (l.length : Int) := by omega
    have hw : IntKind.i64.wrap ((i : Int) + 1) = ((i + 1 : Nat) : Int) := by rw [qao (by omega) (by omega)]; simp
    have ho2 : out.length ≤ 1012 := by rw [hout, List.length_append, qxu]; have := List.length_take_le i l; omega
    have hb : (out.length + 1) * 64 ≤ 140737488355328 := by omega
    have hcd := quh [(k : Int)] true i (by simp)
    simp only [List.map_cons, List.map_nil, qcm] at hcd
    obtain ⟨t1, t2⟩ := qpx out (qhg k i x).r
    have hr : (out ++ [qhg k i x]).map Evt.r = out.map Evt.r ++ [(qhg k i x).r] := by rw [List.map_append]; rfl
    refine .inl ⟨(out ++ [qhg k i x], g + 1), ?_, by simp only; rw [q1e hx, hout, List.append_assoc]⟩
    have hlo := qac 1 (out ++ [qhg k i x])
    simp only
    rw [hr, List.length_append]
    rw [hr] at hlo
    have hil : ∀ n, qi0 n ([(k : Int), (i : Int)].map qcm) = true := fun n => qar n _
    simp only [qhg, Evt.r] at t2 hlo ⊢
    have hcd2 : ([(k : Int)] ++ [(i : Int)]).map qcm = [(k : Int), (i : Int)].map qcm := rfl
    rw [hcd2] at hcd
    generalize [(k : Int), (i : Int)].map qcm = kl at hcd hlo t2 hil ⊢
    simp only [qhc, Int.natCast_nonneg, Int.toNat_natCast, List.getElem?_map, Option.map_some, hx, hi', hw, hcd, hb, t1, hlo, Start.r, qb1, qog, Ev.exec, qb, qe, qc, qaw, qag, qsn, Ev.evs, Ev.Opnd.ev, Ev.Env.get, Ev.Env.set, Ev.look, qh, qc0, qab, qff, qh9, Ev.AV.cells, Ev.AV.uc, qv, Ev.AV.plain, qaj, qo, qr, Ev.keep, qai, qy, qd, Ev.SObj.lo, qay, qw, qb2, qj, qk, qaf, qaq, qcb, qcc, List.replicate_one, List.length_map, ↓qq, Ev.it1, ↓reduceIte, List.length_cons, List.length_nil, List.getElem?_cons_zero, List.getElem?_cons_succ, List.take_succ_cons, List.take_zero, zfe, List.drop_succ_cons, List.drop_zero, List.drop_nil, List.cons_append, List.nil_append, List.append_nil, List.set_cons_zero, List.set_cons_succ, List.head?_cons, Nat.reduceAdd, Nat.reduceEqDiff, Nat.reduceMul, Nat.reduceLeDiff, Nat.reducePow, decide_true, zfc, zfa, and_self, ne_eq, zfb, zff, zfd, Nat.lt_add_one, Nat.le_refl, eq_self]
  · rintro ⟨out, g⟩ hout
    rw [List.take_length] at hout
    simp only at hout ⊢
    simp only [qhc, Int.lt_irrefl, Ev.exec, qb, qe, qc, qag, Ev.Opnd.ev, Ev.Env.get, Ev.Env.set, Ev.look, qo, ↓qq, Ev.it1, ↓reduceIte, List.length_append, Nat.reduceEqDiff, decide_false, zfa, eq_self]
    exact ⟨_, rfl, g, rfl, rfl, by rw [hout], by rw [hout, List.length_append]; rfl, rfl, rfl, rfl⟩
end
set_option maxRecDepth 10000
section
variable (c : Cfg)
structure Small12 (c : Cfg) : Prop where
  lps : c.lps.length ≤ 12
  lp : ∀ l ∈ c.lps, l.length ≤ 12
theorem Small12.len {c : Cfg} (h : Small12 c) (k : Nat) : (qie (c.lps.take k)).length ≤ 144 := by
  have := q57 (lps := c.lps.take k) (m := 12) (fun l hl => h.lp l (List.mem_of_mem_take hl))
  have := List.length_take_le k c.lps
  have := List.length_take_le' k c.lps
  have := h.lps
  omega
theorem q9p (h : Small12 c) :
    ∃ y, itB (exec (evL T) itL none qg9) (qr [3, 9, 10, 11] true 1) ⟨[(3, .sl 0 0 0 0 false), (9, (.fsl ((c.lps).map lpC) false)), (10, (ii c.lps.length)), (11, (ii 0))], []⟩ [.row 6 [] 0] = some y ∧
      ∃ g : Nat, y.1 = .exit 0 ∧ y.2.1.marks = [] ∧ y.2.2 = [.row 6 ((qie c.lps).map Evt.r) g] ∧ Ev.look y.2.1.vars 3 = some (.sl 0 g 0 (qie c.lps).length false) := by
  have key := qhi (f := exec (evL T) itL none qg9) (s := qr [3, 9, 10, 11] true 1) (α := List Evt × Nat)
    (fun i a => ⟨[(3, .sl 0 a.2 0 a.1.length false), (9, (.fsl ((c.lps).map lpC) false)), (10, (ii c.lps.length)), (11, (ii i))], []⟩) (fun i a => [.row 6 (a.1.map Evt.r) a.2])
    (fun i a => a.1 = qie (c.lps.take i)) c.lps.length
    (fun y => ∃ g : Nat, y.1 = .exit 0 ∧ y.2.1.marks = [] ∧ y.2.2 = [.row 6 ((qie c.lps).map Evt.r) g] ∧ Ev.look y.2.1.vars 3 = some (.sl 0 g 0 (qie c.lps).length false)) ?_ ?_ 0 ([], 0) (Nat.zero_le _) (by simp [qie])
  · exact key
  · rintro i ⟨out, g⟩ hi hout
    simp only at hout ⊢
    obtain ⟨x, hx⟩ : ∃ x, c.lps[i]? = some x := ⟨_, List.getElem?_eq_getElem hi⟩
    have hlps := h.lps
    have hi' : (i : Int) < (c.lps.length : Int) := by omega
    have hw : IntKind.i64.wrap ((i : Int) + 1) = ((i + 1 : Nat) : Int) := by rw [qao (by omega) (by omega)]; simp
    have hl := h.len i
    obtain ⟨⟨y, e, σ⟩, k1, g', k2, k3, k4, k5, k6, k7, k8⟩ := q80 c i x out g (h.lp _ (List.mem_of_getElem? hx)) (by omega) (by rw [hout]; omega) c.lps.length
    simp only at k1 k2 k3 k4 k5 k6 k7 k8
    subst k2; subst k4
    refine .inl ⟨(out ++ qih i x, g'), ?_, by simp only; rw [qw5 hx, hout]⟩
    simp only [List.length_append] at k5 ⊢
    simp only [qg9, Int.natCast_nonneg, Int.toNat_natCast, List.getElem?_map, Option.map_some, hx, hi', hw, k1, k3, k5, k6, k7, k8, lpC, qac, qb1, qog, Ev.exec, qb, qe, qc, qag, Ev.Opnd.ev, Ev.Env.get, Ev.Env.set, Ev.look, qh, qab, qaj, qo, qr, Ev.keep, qai, qy, qd, Ev.SObj.lo, qay, qw, qb2, List.length_map, ↓qq, ↓qak, Ev.it1, ↓reduceIte, List.length_cons, List.length_nil, List.take_succ_cons, zfe, List.head?_cons, Nat.reduceEqDiff, decide_true, zfc, zfa, and_self, zfd, Nat.lt_add_one, eq_self]
  · rintro ⟨out, g⟩ hout
    rw [List.take_length] at hout
    simp only at hout ⊢
    simp only [qg9, Int.lt_irrefl, Ev.exec, qb, qe, qc, qag, Ev.Opnd.ev, Ev.Env.get, Ev.Env.set, Ev.look, qo, ↓qq, Ev.it1, ↓reduceIte, Nat.reduceEqDiff, decide_false, zfa, eq_self]
    exact ⟨_, rfl, g, rfl, rfl, by rw [hout], by rw [hout]; rfl⟩
theorem qxl (h : Small12 c) : qaz (evL T) qhj [(.agg [(.fsl ((c.lps).map lpC) false), (.fsl ((c.progs).map qbm) false), (ii c.look), (ii c.fin), (ii c.cap)])] = some (.fsl ((qoj (qie c.lps)).map Evt.r) false) := by
  obtain ⟨⟨y, e, σ⟩, k1, g, k2, k3, k4, k5⟩ := q9p c h
  simp only at k1 k2 k3 k4 k5
  subst k2; subst k4
  have hl := h.len c.lps.length
  rw [List.take_length] at hl
  have hs := qnf (qie c.lps) false (by omega) (q3c _) (q26 _)
  have t1 := (qpx (qie c.lps) []).1
  have h0 : (0 : Int) = ((0 : Nat) : Int) := rfl
  rw [qaz, qs qv9 qux]
  simp only [qk1, k1, k3, k5, hs, t1, qac, qb1, qm, Ev.exec, qb, qe, qc, qaw, qag, Ev.evs, Ev.Opnd.ev, Ev.Env.get, Ev.Env.set, Ev.look, qn, qh, qab, Ev.AV.cells, qv, Ev.AV.plain, ql, qx, qae, Ev.kill, qad, qr, Ev.keep, qai, qy, qd, Ev.SObj.lo, qay, qw, qb2, qj, qk, qaf, qah, List.length_map, ↓qq, ↓qak, ↓reduceIte, List.length_cons, List.length_nil, List.getElem?_cons_zero, List.take_succ_cons, List.take_zero, zfe, List.drop_zero, List.nil_append, List.set_cons_zero, List.head?_cons, Nat.reduceEqDiff, Nat.reduceLT, decide_true, zfc, zfa, and_self, ne_eq, zfb, zff, zfd, Nat.lt_add_one, Nat.le_refl, eq_self]
end
set_option maxRecDepth 10000
def stP (s : Start) : Pr := ⟨s.prog, 0, true, []⟩
def stLp (ps : List Pr) : Lp × Bool := (⟨0, 0, ps, 0⟩, decide (ps = []))
def q35 (σ : qaa) (lim : Nat) (row : List AV) (ps : List Pr) : Prop :=
  ps = [] ∧ row = [(ii 0), (ii 0), .fsl [] true, (ii 0)] ∨ ps ≠ [] ∧ ∃ o g, 0 < o ∧ o < lim ∧ row = [(ii 0), (ii 0), .sl o g 0 ps.length false, (ii 0)] ∧ σ[o]? = some (.row 4 (ps.map Pr.r) g)
theorem q35.frz {σ : qaa} {lim d : Nat} {row : List AV} {ps : List Pr} (h : q35 σ lim row ps) : qg8 (Ev.frz σ (d + 1)) row = some (lpF (stLp ps)) := by
  rcases h with ⟨rfl, rfl⟩ | ⟨h1, o, g, _, _, rfl, h2⟩
  · rfl
  · have t1 : List.take ps.length (ps.map Pr.r) = ps.map Pr.r := List.take_of_length_le (by simp)
    simp only [qfc, qgx, qlc, h2, t1, qik, qat, lpF, stLp, h1, qay, qah, qlc, qik, qgx, qfc, List.length_map, ↓qq, ↓reduceIte, List.drop_zero, decide_false, and_self, zfd, Nat.le_refl, eq_self]
def qjz (σ : qaa) (lim : Nat) : List (List AV) → List (List Pr) → Prop
  | [], [] => True
  | r :: rs, p :: ps => q35 σ lim r p ∧ qjz σ lim rs ps
  | _, _ => False
theorem q35.mono {σ σ' : qaa} {lim lim' : Nat} {row : List AV} {ps : List Pr} (h : q35 σ lim row ps) (hl : lim ≤ lim') (hσ : ∀ o, 0 < o → o < lim → σ'[o]? = σ[o]?) : q35 σ' lim' row ps := by
  rcases h with h | ⟨h1, o, g, h2, h3, h4, h5⟩
  · exact .inl h
  · exact .inr ⟨h1, o, g, h2, by omega, h4, by rw [hσ o h2 h3]; exact h5⟩
theorem qjz.mono {σ σ' : qaa} {lim lim' : Nat} (hl : lim ≤ lim') (hσ : ∀ o, 0 < o → o < lim → σ'[o]? = σ[o]?) : ∀ {rs : List (List AV)} {ps : List (List Pr)}, qjz σ lim rs ps → qjz σ' lim' rs ps
  | [], [], h => trivial
  | r :: rs, p :: ps, h => ⟨h.1.mono hl hσ, qjz.mono hl hσ h.2⟩
  | [], _ :: _, h => h.elim
  | _ :: _, [], h => h.elim
theorem qjz.snoc {σ : qaa} {lim : Nat} {r : List AV} {p : List Pr} (hr : q35 σ lim r p) : ∀ {rs : List (List AV)} {ps : List (List Pr)}, qjz σ lim rs ps → qjz σ lim (rs ++ [r]) (ps ++ [p])
  | [], [], h => ⟨hr, trivial⟩
  | r' :: rs, p' :: ps, h => ⟨h.1, qjz.snoc hr h.2⟩
  | [], _ :: _, h => h.elim
  | _ :: _, [], h => h.elim
theorem qjz.frz {σ : qaa} {lim d : Nat} : ∀ {rs : List (List AV)} {ps : List (List Pr)}, qjz σ lim rs ps → qg8 (qg8 (Ev.frz σ (d + 1))) rs = some ((ps.map stLp).map lpF)
  | [], [], h => rfl
  | r :: rs, p :: ps, h => by rw [qfc, h.1.frz, qjz.frz h.2]; rfl
  | [], _ :: _, h => h.elim
  | _ :: _, [], h => h.elim
theorem qjz.len {σ : qaa} {lim : Nat} : ∀ {rs : List (List AV)} {ps : List (List Pr)}, qjz σ lim rs ps → rs.length = ps.length
  | [], [], h => rfl
  | r :: rs, p :: ps, h => by rw [List.length_cons, List.length_cons, qjz.len h.2]
  | [], _ :: _, h => h.elim
  | _ :: _, [], h => h.elim
section
variable (c : Cfg)
def Part (τ0 τ : qaa) (i : Nat) (l : List Start) (rk : List AV) : Prop :=
  τ0.length ≤ τ.length ∧ (∀ j, j < τ0.length → τ[j]? = τ0[j]?) ∧
  (i = 0 ∧ rk = [(ii 0), (ii 0), .fsl [] true, (ii 0)] ∨ 0 < i ∧ ∃ o g, τ0.length ≤ o ∧ o < τ.length ∧ rk = [(ii 0), (ii 0), .sl (o + 1) g 0 i false, (ii 0)] ∧ τ[o]? = some (.row 4 (((l.take i).map stP).map Pr.r) g))
theorem Part.rowOk {τ0 τ : qaa} {l : List Start} {rk : List AV} (h : Part τ0 τ l.length l rk) (x : SObj) : q35 (x :: τ) (τ.length + 1) rk (l.map stP) := by
  obtain ⟨_, _, h⟩ := h
  rcases h with ⟨h1, h2⟩ | ⟨h1, o, g, h2, h3, h4, h5⟩
  · exact .inl ⟨by rw [List.eq_nil_of_length_eq_zero h1]; rfl, h2⟩
  · refine .inr ⟨fun e => by rw [List.map_eq_nil_iff] at e; subst e; simp at h1, o + 1, g, by omega, by omega, by rw [h4, List.length_map], ?_⟩
    rw [List.take_length] at h5
    rw [List.getElem?_cons_succ]; exact h5
theorem q48 (k n : Nat) (l : List Start) (R1 R2 : List (List AV)) (hk : k = R1.length) (hn : n = R1.length + 1 + R2.length) (hl : l.length ≤ 12) (τ0 : qaa) :
    ∃ y, itB (exec (evL T) itL none qgd) (qr [3, 4, 13, 14, 15, 20, 21, 22] false (τ0.length + 1)) ⟨[(3, .sl 0 0 0 n true), (4, (ii k)), (13, (.fsl ((c.lps).map lpC) false)), (14, (ii n)), (15, (ii k)), (20, (.fsl ((l).map Start.r) false)), (21, (ii l.length)), (22, (ii 0))], []⟩ (.row 4 (R1 ++ [(ii 0), (ii 0), .fsl [] true, (ii 0)] :: R2) 0 :: τ0) = some y ∧
      ∃ (rk : List AV) (τ : qaa), y.1 = .exit 2 ∧ y.2.1.marks = [] ∧ y.2.2 = .row 4 (R1 ++ rk :: R2) 0 :: τ ∧ Part τ0 τ l.length l rk ∧ Ev.look y.2.1.vars 3 = some (.sl 0 0 0 n true) ∧ Ev.look y.2.1.vars 13 = some (.fsl ((c.lps).map lpC) false) ∧ Ev.look y.2.1.vars 14 = some (ii n) ∧ Ev.look y.2.1.vars 15 = some (ii k) := by
  have key := qhi (f := exec (evL T) itL none qgd) (s := qr [3, 4, 13, 14, 15, 20, 21, 22] false (τ0.length + 1)) (α := List AV × qaa)
    (fun i a => ⟨[(3, .sl 0 0 0 n true), (4, (ii k)), (13, (.fsl ((c.lps).map lpC) false)), (14, (ii n)), (15, (ii k)), (20, (.fsl ((l).map Start.r) false)), (21, (ii l.length)), (22, (ii i))], []⟩) (fun i a => .row 4 (R1 ++ a.1 :: R2) 0 :: a.2)
    (fun i a => Part τ0 a.2 i l a.1) l.length
    (fun y => ∃ (rk : List AV) (τ : qaa), y.1 = .exit 2 ∧ y.2.1.marks = [] ∧ y.2.2 = .row 4 (R1 ++ rk :: R2) 0 :: τ ∧ Part τ0 τ l.length l rk ∧ Ev.look y.2.1.vars 3 = some (.sl 0 0 0 n true) ∧ Ev.look y.2.1.vars 13 = some (.fsl ((c.lps).map lpC) false) ∧ Ev.look y.2.1.vars 14 = some (ii n) ∧ Ev.look y.2.1.vars 15 = some (ii k)) ?_ ?_ 0 ([(ii 0), (ii 0), .fsl [] true, (ii 0)], τ0) (Nat.zero_le _) ⟨Nat.le_refl _, fun _ _ => rfl, .inl ⟨rfl, rfl⟩⟩
  · exact key
  · rintro i ⟨rk, τ⟩ hi ⟨h1, h2, h3⟩
    simp only at h1 h2 h3 ⊢
    obtain ⟨x, hx⟩ : ∃ x, l[i]? = some x := ⟨_, List.getElem?_eq_getElem hi⟩
    have hi' : (i : Int) < (l.length : Int) := by omega
    have hw : IntKind.i64.wrap ((i : Int) + 1) = ((i + 1 : Nat) : Int) := by rw [qao (by omega) (by omega)]; simp
    have rg : ∀ r : List AV, (R1 ++ r :: R2)[k]? = some r := fun r => by rw [hk]; simp
    have rs : ∀ r v : List AV, (R1 ++ r :: R2).set k v = R1 ++ v :: R2 := fun r v => by rw [hk]; simp []
    have rk' : k < n := by omega
    have tg : ∀ v : SObj, (τ ++ [v])[τ.length]? = some v := fun v => by simp
    have ts : ∀ v w : SObj, (τ ++ [v]).set τ.length w = τ ++ [w] := fun v w => by simp []
    obtain ⟨xp, xt⟩ := x
    rcases h3 with ⟨hi0, rfl⟩ | ⟨h3, o, g, h4, h5, rfl, h6⟩
    · refine .inl ⟨([(ii 0), (ii 0), .sl (τ.length + 1 + 1) 0 0 1 false, (ii 0)], τ ++ [.row 2 [[(ii xp), (ii xt)]] 0, .row 4 [(stP ⟨xp, xt⟩).r] 0]), ?_, ?_⟩
      · simp only [qgd, Int.natCast_nonneg, Int.toNat_natCast, List.getElem?_map, Option.map_some, hx, hi', hw, rg, rs, rk', tg, ts, List.append_assoc, List.map_nil, Start.r, stP, Pr.r, Ev.exec, qb, qe, qc, qag, qsn, Ev.Opnd.ev, Ev.Env.get, Ev.Env.set, Ev.look, qh, qc0, qab, qff, qh9, Ev.AV.cells, Ev.AV.uc, qv, Ev.AV.plain, qaj, qo, qr, Ev.keep, qcb, qcc, List.replicate_one, ↓qq, Ev.it1, ↓reduceIte, List.length_cons, List.length_nil, List.length_append, List.getElem?_cons_zero, List.getElem?_cons_succ, List.take_succ_cons, List.take_zero, zfe, List.drop_succ_cons, List.drop_zero, List.drop_nil, List.cons_append, List.nil_append, List.append_nil, List.set_cons_zero, List.set_cons_succ, List.head?_cons, Nat.reduceAdd, Nat.reduceEqDiff, Nat.reduceMul, Nat.reduceLT, Nat.reduceLeDiff, Nat.reducePow, decide_true, zfc, zfa, and_self, ne_eq, zfb, not_true_eq_false, zff, zfd, Nat.add_zero, Nat.lt_add_one, Nat.le_refl, eq_self]
      · refine ⟨by simp; omega, fun j hj => by rw [List.getElem?_append_left (by omega)]; exact h2 j hj, .inr ⟨by omega, τ.length + 1, 0, by omega, by simp, by rw [hi0], ?_⟩⟩
        rw [qea hx, hi0]
        simp
    · have og : ∀ v : SObj, (τ ++ [v])[o]? = some (.row 4 (((l.take i).map stP).map Pr.r) g) := fun v => by rw [List.getElem?_append_left h5]; exact h6
      have ln : (((l.take i).map stP).map Pr.r).length = i := by simp; omega
      have tk : List.take i (((l.take i).map stP).map Pr.r) = ((l.take i).map stP).map Pr.r := List.take_of_length_le (by simp; omega)
      have bd : (i + 1) * 48 ≤ 140737488355328 := by omega
      have il : i ≤ i := Nat.le_refl _
      have nx : ((l.take (i + 1)).map stP).map Pr.r = ((l.take i).map stP).map Pr.r ++ [(stP ⟨xp, xt⟩).r] := by rw [qea hx]; simp
      refine .inl ⟨([(ii 0), (ii 0), .sl (o + 1) (g + 1) 0 (i + 1) false, (ii 0)], (τ ++ [SObj.row 2 [[(ii xp), (ii xt)]] 0] : List SObj).set o (.row 4 (((l.take (i + 1)).map stP).map Pr.r) (g + 1))), ?_, ?_⟩
      · simp only
        rw [nx]
        generalize ((l.take i).map stP).map Pr.r = PR at og ln tk ⊢
        simp only [qgd, Int.natCast_nonneg, Int.toNat_natCast, List.getElem?_map, Option.map_some, hx, hi', hw, rg, rs, rk', tg, ts, og, ln, tk, bd, il, List.map_nil, Start.r, stP, Pr.r, Ev.exec, qb, qe, qc, qag, qsn, Ev.Opnd.ev, Ev.Env.get, Ev.Env.set, Ev.look, qh, qc0, qab, qff, qh9, Ev.AV.cells, Ev.AV.uc, qv, Ev.AV.plain, qaj, qo, qr, Ev.keep, qcb, qcc, List.replicate_one, ↓qq, Ev.it1, ↓reduceIte, List.length_cons, List.length_nil, List.getElem?_cons_zero, List.getElem?_cons_succ, List.take_succ_cons, List.take_zero, zfe, List.drop_succ_cons, List.drop_zero, List.drop_nil, List.cons_append, List.nil_append, List.append_nil, List.set_cons_zero, List.set_cons_succ, List.head?_cons, Nat.reduceAdd, Nat.reduceEqDiff, Nat.reduceMul, Nat.reduceLeDiff, Nat.reducePow, decide_true, zfc, zfa, and_self, ne_eq, zfb, zff, zfd, Nat.add_zero, Nat.lt_add_one, Nat.le_refl, eq_self]
      · refine ⟨by simp; omega, fun j hj => ?_, .inr ⟨by omega, o, g + 1, h4, by simp; omega, rfl, ?_⟩⟩
        · rw [List.getElem?_set_ne (by omega), List.getElem?_append_left (by omega)]; exact h2 j hj
        · rw [List.getElem?_set_self (by simp; omega)]
  · rintro ⟨rk, τ⟩ hP
    simp only at hP ⊢
    simp only [qgd, Int.lt_irrefl, Ev.exec, qb, qe, qc, qag, Ev.Opnd.ev, Ev.Env.get, Ev.Env.set, Ev.look, qo, ↓qq, Ev.it1, ↓reduceIte, Nat.reduceEqDiff, decide_false, zfa, eq_self]
    exact ⟨_, rfl, rk, τ, rfl, rfl, rfl, hP, rfl, rfl, rfl, rfl⟩
end
set_option maxRecDepth 10000
def q2b (lps : List (List Start)) : List (List Pr) := lps.map fun l => l.map stP
def qic (lps : List (List Start)) : List (Lp × Bool) := (q2b lps).map stLp
section
variable (c : Cfg)
theorem q5y (h : Small12 c) :
    ∃ y, itB (exec (evL T) itL none qhz) (qr [3, 13, 14, 15] false 1) ⟨[(3, .sl 0 0 0 c.lps.length true), (13, (.fsl ((c.lps).map lpC) false)), (14, (ii c.lps.length)), (15, (ii 0))], []⟩ [.row 4 (List.replicate c.lps.length [(ii 0), (ii 0), .fsl [] true, (ii 0)]) 0] = some y ∧
      ∃ (R : List (List AV)) (τ : qaa), y.1 = .exit 0 ∧ y.2.1.marks = [] ∧ y.2.2 = .row 4 R 0 :: τ ∧ qjz y.2.2 (τ.length + 1) R (q2b c.lps) ∧ Ev.look y.2.1.vars 3 = some (.sl 0 0 0 c.lps.length true) := by
  have key := qhi (f := exec (evL T) itL none qhz) (s := qr [3, 13, 14, 15] false 1) (α := List (List AV) × qaa)
    (fun i a => ⟨[(3, .sl 0 0 0 c.lps.length true), (13, (.fsl ((c.lps).map lpC) false)), (14, (ii c.lps.length)), (15, (ii i))], []⟩) (fun i a => .row 4 (a.1 ++ List.replicate (c.lps.length - i) [(ii 0), (ii 0), .fsl [] true, (ii 0)]) 0 :: a.2)
    (fun i a => ∀ x : SObj, qjz (x :: a.2) (a.2.length + 1) a.1 (q2b (c.lps.take i))) c.lps.length
    (fun y => ∃ (R : List (List AV)) (τ : qaa), y.1 = .exit 0 ∧ y.2.1.marks = [] ∧ y.2.2 = .row 4 R 0 :: τ ∧ qjz y.2.2 (τ.length + 1) R (q2b c.lps) ∧ Ev.look y.2.1.vars 3 = some (.sl 0 0 0 c.lps.length true)) ?_ ?_ 0 ([], []) (Nat.zero_le _) (fun _ => trivial)
  · exact key
  · rintro i ⟨R, τ⟩ hi hR
    simp only at hR ⊢
    obtain ⟨x, hx⟩ : ∃ x, c.lps[i]? = some x := ⟨_, List.getElem?_eq_getElem hi⟩
    have hlps := h.lps
    have hi' : (i : Int) < (c.lps.length : Int) := by omega
    have hw : IntKind.i64.wrap ((i : Int) + 1) = ((i + 1 : Nat) : Int) := by rw [qao (by omega) (by omega)]; simp
    have hRl : i = R.length := by rw [(hR .dead).len]; simp [q2b]; omega
    have hrep : List.replicate (c.lps.length - i) ([(ii 0), (ii 0), .fsl [] true, (ii 0)] : List AV) = ([(ii 0), (ii 0), .fsl [] true, (ii 0)] : List AV) :: List.replicate (c.lps.length - (i + 1)) ([(ii 0), (ii 0), .fsl [] true, (ii 0)] : List AV) := by
      rw [show c.lps.length - i = (c.lps.length - (i + 1)) + 1 by omega]; rfl
    obtain ⟨⟨y, e, σ⟩, k1, rk, τ', k2, k3, k4, k5, k6, k7, k8, k9⟩ := q48 c i c.lps.length x R (List.replicate (c.lps.length - (i + 1)) [(ii 0), (ii 0), .fsl [] true, (ii 0)]) hRl (by simp; omega) (h.lp _ (List.mem_of_getElem? hx)) τ
    simp only at k1 k2 k3 k4 k6 k7 k8 k9
    subst k2; subst k4
    refine .inl ⟨(R ++ [rk], τ'), ?_, fun z => ?_⟩
    · simp only [List.append_assoc, List.cons_append, List.nil_append]
      rw [hrep]
      generalize List.replicate (c.lps.length - (i + 1)) ([(ii 0), (ii 0), .fsl [] true, (ii 0)] : List AV) = RR at k1 ⊢
      simp only [qhz, Int.natCast_nonneg, Int.toNat_natCast, List.getElem?_map, Option.map_some, hx, hi', hw, k1, k3, k6, k7, k8, k9, lpC, Ev.exec, qb, qe, qc, qag, Ev.Opnd.ev, Ev.Env.get, Ev.Env.set, Ev.look, qh, qab, qaj, qo, qr, Ev.keep, List.length_map, ↓qq, ↓qak, Ev.it1, ↓reduceIte, List.length_cons, List.length_nil, List.head?_cons, Nat.reduceEqDiff, decide_true, zfa, zfd, eq_self]
    · have : q2b (c.lps.take (i + 1)) = q2b (c.lps.take i) ++ [x.map stP] := by rw [qea hx]; simp [q2b]
      simp only
      rw [this]
      refine qjz.snoc (k5.rowOk z) ((hR z).mono (by have := k5.1; omega) (fun o h1 h2 => ?_))
      obtain ⟨o, rfl⟩ : ∃ p, o = p + 1 := ⟨o - 1, by omega⟩
      rw [List.getElem?_cons_succ, List.getElem?_cons_succ]
      exact k5.2.1 o (by omega)
  · rintro ⟨R, τ⟩ hR
    rw [List.take_length] at hR
    simp only at hR ⊢
    rw [Nat.sub_self, List.replicate_zero, List.append_nil]
    simp only [qhz, Int.lt_irrefl, Ev.exec, qb, qe, qc, qag, Ev.Opnd.ev, Ev.Env.get, Ev.Env.set, Ev.look, qo, ↓qq, Ev.it1, ↓reduceIte, Nat.reduceEqDiff, decide_false, zfa, eq_self]
    exact ⟨_, rfl, R, τ, rfl, rfl, rfl, hR _, rfl⟩
end
set_option maxRecDepth 10000
section
variable (c : Cfg)
def qaas (b i : Nat) (l : List Start) (W : qaa) : Prop :=
  i = 0 ∧ W = [.row 4 [[(ii 0), (ii 0), .fsl [] true, (ii 0)]] 0] ∨ 0 < i ∧ ∃ g, W = [.row 4 [[(ii 0), (ii 0), .sl (b + 1 + 1) g 0 i false, (ii 0)]] 0, .row 4 (((l.take i).map stP).map Pr.r) g]
theorem qaas.row {b : Nat} {l : List Start} {τ0 W : qaa} (hb : b = τ0.length) (h : qaas b l.length l W) :
    ∃ rk, (∃ w : List SObj, W = .row 4 [rk] 0 :: w) ∧ rk.length = 4 ∧ qv rk = true ∧ ∀ x : SObj, q35 (x :: (τ0 ++ W)) ((τ0 ++ W).length + 1) rk (l.map stP) := by
  rcases h with ⟨h1, rfl⟩ | ⟨h1, g, rfl⟩
  · refine ⟨[(ii 0), (ii 0), .fsl [] true, (ii 0)], ⟨[], rfl⟩, rfl, rfl, fun x => .inl ⟨?_, rfl⟩⟩
    rw [List.eq_nil_of_length_eq_zero h1]; rfl
  · refine ⟨_, ⟨_, rfl⟩, rfl, rfl, fun x => .inr ⟨fun e => by rw [List.map_eq_nil_iff] at e; subst e; simp at h1, b + 1 + 1, g, by omega, by simp; omega, by rw [List.length_map], ?_⟩⟩
    rw [List.take_length, List.getElem?_cons_succ, hb, List.getElem?_append_right (by omega)]
    simp
theorem q3v (k g b : Nat) (l : List Start) (R : List (List AV)) (hkl : c.lps[k]? = some l) (hl : l.length ≤ 12) (τ0 : qaa) (hb : b = τ0.length) :
    ∃ y, itB (exec (evL T) itL none qg2) (qr [1, 3, 4, 5, 6] false (b + 1 + 1)) ⟨[(1, (.fptr [(.fsl ((c.lps).map lpC) false), (.fsl ((c.progs).map qbm) false), (ii c.look), (ii c.fin), (ii c.cap)])), (3, .sl 0 g 0 R.length false), (4, (ii k)), (5, .ptr (b + 1) 0 0 0), (6, (ii 0))], []⟩ (.row 4 R g :: (τ0 ++ [.row 4 [[(ii 0), (ii 0), .fsl [] true, (ii 0)]] 0])) = some y ∧
      ∃ W : List SObj, y.1 = .exit 2 ∧ y.2.1.marks = [] ∧ y.2.2 = .row 4 R g :: (τ0 ++ W) ∧ qaas b l.length l W ∧ Ev.look y.2.1.vars 1 = some (.fptr [(.fsl ((c.lps).map lpC) false), (.fsl ((c.progs).map qbm) false), (ii c.look), (ii c.fin), (ii c.cap)]) ∧ Ev.look y.2.1.vars 3 = some (.sl 0 g 0 R.length false) ∧ Ev.look y.2.1.vars 4 = some (ii k) ∧ Ev.look y.2.1.vars 5 = some (.ptr (b + 1) 0 0 0) := by
  have key := qhi (f := exec (evL T) itL none qg2) (s := qr [1, 3, 4, 5, 6] false (b + 1 + 1)) (α := List SObj)
    (fun i a => ⟨[(1, (.fptr [(.fsl ((c.lps).map lpC) false), (.fsl ((c.progs).map qbm) false), (ii c.look), (ii c.fin), (ii c.cap)])), (3, .sl 0 g 0 R.length false), (4, (ii k)), (5, .ptr (b + 1) 0 0 0), (6, (ii i))], []⟩) (fun i a => .row 4 R g :: (τ0 ++ a))
    (fun i a => qaas b i l a) l.length
    (fun y => ∃ W : List SObj, y.1 = .exit 2 ∧ y.2.1.marks = [] ∧ y.2.2 = .row 4 R g :: (τ0 ++ W) ∧ qaas b l.length l W ∧ Ev.look y.2.1.vars 1 = some (.fptr [(.fsl ((c.lps).map lpC) false), (.fsl ((c.progs).map qbm) false), (ii c.look), (ii c.fin), (ii c.cap)]) ∧ Ev.look y.2.1.vars 3 = some (.sl 0 g 0 R.length false) ∧ Ev.look y.2.1.vars 4 = some (ii k) ∧ Ev.look y.2.1.vars 5 = some (.ptr (b + 1) 0 0 0)) ?_ ?_ 0 [.row 4 [[(ii 0), (ii 0), .fsl [] true, (ii 0)]] 0] (Nat.zero_le _) (.inl ⟨rfl, rfl⟩)
  · exact key
  · rintro i W hi h
    obtain ⟨x, hx⟩ : ∃ x, l[i]? = some x := ⟨_, List.getElem?_eq_getElem hi⟩
    have hi' : (i : Int) < (l.length : Int) := by omega
    have hw : IntKind.i64.wrap ((i : Int) + 1) = ((i + 1 : Nat) : Int) := by rw [qao (by omega) (by omega)]; simp
    have tg : ∀ (v : SObj) (w : List SObj), (τ0 ++ v :: w)[b]? = some v := fun v w => by rw [hb]; simp
    have tg2 : ∀ v w : SObj, (τ0 ++ [v, w])[b + 1]? = some w := fun v w => by rw [hb, List.getElem?_append_right (by omega)]; simp
    have ts : ∀ (v u : SObj) (w : List SObj), (τ0 ++ v :: w).set b u = τ0 ++ u :: w := fun v u w => by rw [hb]; simp []
    have ts2 : ∀ v w u : SObj, (τ0 ++ [v, w]).set (b + 1) u = τ0 ++ [v, u] := fun v w u => by rw [hb, List.set_append, if_neg (by omega)]; simp
    obtain ⟨xp, xt⟩ := x
    have hbl : List.length τ0 = b := hb.symm
    rcases h with ⟨hi0, rfl⟩ | ⟨h3, g', rfl⟩
    · refine .inl ⟨[.row 4 [[(ii 0), (ii 0), .sl (b + 1 + 1) 0 0 1 false, (ii 0)]] 0, .row 4 [(stP ⟨xp, xt⟩).r] 0], ?_, .inr ⟨by omega, 0, ?_⟩⟩
      · simp only [qg2, Int.natCast_nonneg, Int.toNat_natCast, List.getElem?_map, Option.map_some, hkl, hx, hi', hw, tg, ts, hbl, List.append_assoc, List.map_nil, Start.r, stP, Pr.r, lpC, Ev.exec, qb, qe, qc, qag, qsn, Ev.Opnd.ev, Ev.Env.get, Ev.Env.set, Ev.look, qh, qc0, qab, qff, qh9, Ev.AV.cells, Ev.AV.uc, qv, Ev.AV.plain, qaj, qo, qr, Ev.keep, qcb, qcc, List.replicate_one, List.length_map, ↓qq, Ev.it1, ↓reduceIte, List.length_cons, List.length_nil, List.length_append, List.getElem?_cons_zero, List.getElem?_cons_succ, List.take_succ_cons, List.take_zero, List.drop_succ_cons, List.drop_zero, List.cons_append, List.nil_append, List.set_cons_zero, List.set_cons_succ, List.head?_cons, Nat.reduceAdd, Nat.reduceEqDiff, Nat.reduceMul, Nat.reduceLT, Nat.reduceLeDiff, Nat.reducePow, decide_true, zfc, zfa, and_self, ne_eq, zfb, not_true_eq_false, zff, zfd, Nat.lt_add_one, eq_self]
      · rw [qea hx, hi0]; simp
    · have ln : (((l.take i).map stP).map Pr.r).length = i := by simp; omega
      have tk : List.take i (((l.take i).map stP).map Pr.r) = ((l.take i).map stP).map Pr.r := List.take_of_length_le (by simp; omega)
      have bd : (i + 1) * 48 ≤ 140737488355328 := by omega
      have il : i ≤ i := Nat.le_refl _
      have nx : ((l.take (i + 1)).map stP).map Pr.r = ((l.take i).map stP).map Pr.r ++ [(stP ⟨xp, xt⟩).r] := by rw [qea hx]; simp
      refine .inl ⟨[.row 4 [[(ii 0), (ii 0), .sl (b + 1 + 1) (g' + 1) 0 (i + 1) false, (ii 0)]] 0, .row 4 (((l.take (i + 1)).map stP).map Pr.r) (g' + 1)], ?_, .inr ⟨by omega, g' + 1, rfl⟩⟩
      rw [nx]
      generalize ((l.take i).map stP).map Pr.r = PR at ln tk ⊢
      simp only [qg2, Int.natCast_nonneg, Int.toNat_natCast, List.getElem?_map, Option.map_some, hkl, hx, hi', hw, tg, tg2, ts, ts2, ln, tk, bd, il, List.map_nil, Start.r, stP, Pr.r, lpC, Ev.exec, qb, qe, qc, qag, qsn, Ev.Opnd.ev, Ev.Env.get, Ev.Env.set, Ev.look, qh, qc0, qab, qff, qh9, Ev.AV.cells, Ev.AV.uc, qv, Ev.AV.plain, qaj, qo, qr, Ev.keep, qcb, qcc, List.replicate_one, List.length_map, ↓qq, Ev.it1, ↓reduceIte, List.length_cons, List.length_nil, List.getElem?_cons_zero, List.getElem?_cons_succ, List.take_succ_cons, List.take_zero, List.drop_succ_cons, List.drop_zero, List.cons_append, List.nil_append, List.set_cons_zero, List.set_cons_succ, List.head?_cons, Nat.reduceAdd, Nat.reduceEqDiff, Nat.reduceMul, Nat.reduceLeDiff, Nat.reducePow, decide_true, zfc, zfa, and_self, ne_eq, zfb, zff, zfd, Nat.lt_add_one, eq_self]
  · rintro W h
    simp only [qg2, Int.natCast_nonneg, Int.toNat_natCast, List.getElem?_map, Option.map_some, hkl, lpC, Int.lt_irrefl, Ev.exec, qb, qe, qc, qag, Ev.Opnd.ev, Ev.Env.get, Ev.Env.set, Ev.look, qh, qab, qo, List.length_map, ↓qq, Ev.it1, ↓reduceIte, List.length_cons, List.length_nil, List.drop_zero, List.head?_cons, Nat.reduceEqDiff, decide_false, zfa, zfd, eq_self]
    exact ⟨_, rfl, W, rfl, rfl, rfl, h, rfl, rfl, rfl, rfl⟩
theorem q44 (h : Small12 c) :
    ∃ y, itB (exec (evL T) itL none qg4) (qr [1, 3, 4] false 1) ⟨[(1, (.fptr [(.fsl ((c.lps).map lpC) false), (.fsl ((c.progs).map qbm) false), (ii c.look), (ii c.fin), (ii c.cap)])), (3, .sl 0 0 0 0 false), (4, (ii 0))], []⟩ [.row 4 [] 0] = some y ∧
      ∃ (R : List (List AV)) (g : Nat) (τ : qaa), y.1 = .exit 0 ∧ y.2.1.marks = [] ∧ y.2.2 = .row 4 R g :: τ ∧ qjz y.2.2 (τ.length + 1) R (q2b c.lps) ∧ Ev.look y.2.1.vars 3 = some (.sl 0 g 0 R.length false) := by
  have key := qhi (f := exec (evL T) itL none qg4) (s := qr [1, 3, 4] false 1) (α := List (List AV) × Nat × qaa)
    (fun i a => ⟨[(1, (.fptr [(.fsl ((c.lps).map lpC) false), (.fsl ((c.progs).map qbm) false), (ii c.look), (ii c.fin), (ii c.cap)])), (3, .sl 0 a.2.1 0 a.1.length false), (4, (ii i))], []⟩) (fun i a => .row 4 a.1 a.2.1 :: a.2.2)
    (fun i a => ∀ x : SObj, qjz (x :: a.2.2) (a.2.2.length + 1) a.1 (q2b (c.lps.take i))) c.lps.length
    (fun y => ∃ (R : List (List AV)) (g : Nat) (τ : qaa), y.1 = .exit 0 ∧ y.2.1.marks = [] ∧ y.2.2 = .row 4 R g :: τ ∧ qjz y.2.2 (τ.length + 1) R (q2b c.lps) ∧ Ev.look y.2.1.vars 3 = some (.sl 0 g 0 R.length false)) ?_ ?_ 0 ([], 0, []) (Nat.zero_le _) (fun _ => trivial)
  · exact key
  · rintro i ⟨R, g, τ⟩ hi hR
    simp only at hR ⊢
    obtain ⟨x, hx⟩ : ∃ x, c.lps[i]? = some x := ⟨_, List.getElem?_eq_getElem hi⟩
    have hlps := h.lps
    have hi' : (i : Int) < (c.lps.length : Int) := by omega
    have hw : IntKind.i64.wrap ((i : Int) + 1) = ((i + 1 : Nat) : Int) := by rw [qao (by omega) (by omega)]; simp
    have hRl : R.length = i := by rw [(hR .dead).len]; simp [q2b]; omega
    obtain ⟨b, hb⟩ : ∃ b, b = τ.length := ⟨_, rfl⟩
    have hbl : List.length τ = b := hb.symm
    obtain ⟨⟨y, e, σ⟩, k1, W, k2, k3, k4, k5, k6, k7, k8, k9⟩ := q3v c i g b x R hx (h.lp _ (List.mem_of_getElem? hx)) τ hb
    simp only at k1 k2 k3 k4 k6 k7 k8 k9
    subst k2; subst k4
    obtain ⟨rk, ⟨w, hW⟩, _, _, hrow⟩ := k5.row hb
    have tg : ∀ (v : SObj) (w : List SObj), (τ ++ v :: w)[b]? = some v := fun v w => by rw [hb]; simp
    have bd : (i + 1) * 48 ≤ 140737488355328 := by omega
    have il : i ≤ i := Nat.le_refl _
    have tk : List.take i R = R := List.take_of_length_le (by omega)
    refine .inl ⟨(R ++ [rk], g + 1, τ ++ W), ?_, fun z => ?_⟩
    · simp only [List.length_append, List.length_cons, List.length_nil, hRl] at k1 k7 ⊢
      rcases k5 with ⟨_, rfl⟩ | ⟨_, g', rfl⟩
      · simp only [List.cons.injEq, SObj.row.injEq, true_and, and_true] at hW
        obtain ⟨rfl, rfl⟩ := hW
        simp only [qg4, hi', hw, hbl, hRl, k1, k3, k6, k7, k8, k9, tg, bd, il, tk, Ev.exec, qb, qe, qc, qag, qsn, Ev.Opnd.ev, Ev.Env.get, Ev.Env.set, Ev.look, qh, qc0, qab, qh9, Ev.AV.cells, qv, Ev.AV.plain, qaj, qo, qr, Ev.keep, qcb, qcc, List.replicate_one, List.length_map, ↓qq, ↓qak, Ev.it1, ↓reduceIte, List.length_cons, List.length_nil, List.length_append, List.getElem?_cons_zero, List.getElem?_cons_succ, List.take_succ_cons, zfe, List.drop_zero, List.cons_append, List.set_cons_zero, List.head?_cons, Nat.reduceAdd, Nat.reduceEqDiff, Nat.reduceMul, Nat.reduceLeDiff, Nat.reducePow, decide_true, zfc, zfa, and_self, ne_eq, zfb, zff, zfd, Nat.lt_add_one, Nat.le_refl, eq_self]
      · simp only [List.cons.injEq, SObj.row.injEq, true_and, and_true] at hW
        obtain ⟨rfl, rfl⟩ := hW
        simp only [qg4, hi', hw, hbl, hRl, k1, k3, k6, k7, k8, k9, tg, bd, il, tk, Ev.exec, qb, qe, qc, qag, qsn, Ev.Opnd.ev, Ev.Env.get, Ev.Env.set, Ev.look, qh, qc0, qab, qh9, Ev.AV.cells, qv, Ev.AV.plain, qaj, qo, qr, Ev.keep, qcb, qcc, List.replicate_one, List.take_length, List.length_map, ↓qq, ↓qak, Ev.it1, ↓reduceIte, List.length_cons, List.length_nil, List.length_append, List.getElem?_cons_zero, List.getElem?_cons_succ, List.take_succ_cons, zfe, List.drop_zero, List.cons_append, List.set_cons_zero, List.head?_cons, Nat.reduceAdd, Nat.reduceEqDiff, Nat.reduceMul, Nat.reduceLeDiff, Nat.reducePow, decide_true, zfc, zfa, and_self, ne_eq, zfb, zff, zfd, Nat.lt_add_one, Nat.le_refl, eq_self]
    · have : q2b (c.lps.take (i + 1)) = q2b (c.lps.take i) ++ [x.map stP] := by rw [qea hx]; simp [q2b]
      simp only
      rw [this]
      refine qjz.snoc (hrow z) ((hR z).mono (by simp) (fun o h1 h2 => ?_))
      obtain ⟨o, rfl⟩ : ∃ p, o = p + 1 := ⟨o - 1, by omega⟩
      rw [List.getElem?_cons_succ, List.getElem?_cons_succ]
      exact List.getElem?_append_left (by omega)
  · rintro ⟨R, g, τ⟩ hR
    rw [List.take_length] at hR
    simp only at hR ⊢
    simp only [qg4, Int.lt_irrefl, Ev.exec, qb, qe, qc, qag, Ev.Opnd.ev, Ev.Env.get, Ev.Env.set, Ev.look, qh, qab, qo, List.length_map, ↓qq, Ev.it1, ↓reduceIte, List.drop_zero, List.head?_cons, Nat.reduceEqDiff, decide_false, zfa, eq_self]
    exact ⟨_, rfl, R, g, τ, rfl, rfl, rfl, hR _, rfl⟩
theorem q1d (h : Small12 c) : qaz (evL T) qjq [(.agg [(.fsl ((c.lps).map lpC) false), (.fsl ((c.progs).map qbm) false), (ii c.look), (ii c.fin), (ii c.cap)])] = some (.fsl ((qic c.lps).map lpF) false) := by
  obtain ⟨⟨y, e, σ⟩, k1, R, g, τ, k2, k3, k4, k5, k6⟩ := q44 c h
  simp only at k1 k2 k3 k4 k5 k6
  subst k2; subst k4
  have tk : List.take R.length R = R := List.take_length
  have hf := fun d => k5.frz (d := d)
  have hle : R.length ≤ R.length := Nat.le_refl _
  rw [qaz, qs qyz qxj]
  simp only [qmq, k1, k3, k6, hle, tk, qm, Ev.exec, qb, qe, qc, qag, Ev.Opnd.ev, Ev.Env.get, Ev.Env.set, Ev.look, qn, Ev.AV.cells, qv, Ev.AV.plain, ql, qx, qae, Ev.kill, qad, qr, Ev.keep, qd, qb2, qlc, ↓qq, ↓qak, ↓reduceIte, List.length_cons, List.length_nil, List.getElem?_cons_zero, List.take_zero, List.drop_zero, List.nil_append, Nat.reduceEqDiff, Nat.reduceLT, decide_false, zfc, zfa, and_self, and_true, ne_eq, zfb, zff, zfd, eq_self]
  rw [show (5 : Nat) = 4 + 1 from rfl, hf 4]
  rfl
end
set_option maxRecDepth 10000
structure Sim where
  trace : List (List Evt)
  lps : List Lp
  pend : List Evt
  n : Nat
  over : Bool
def lpAt (s : Sim) (i : Int) : Lp := (s.lps[i.toNat]?).getD ⟨0, 0, [], 0⟩
def qk0 (s : Sim) (i : Int) : List Evt := (s.trace[i.toNat]?).getD []
def qda (gone : List (List Int)) (x : Evt) : Bool := !(gone.any fun g => decide (g = x.key))
def Sim.step (c : Cfg) (s : Sim) (e : Evt) (rest : List Evt) : Sim :=
  ⟨s.trace.set e.lp.toNat (qk0 s e.lp ++ [e]), s.lps.set e.lp.toNat (qb6 c (lpAt s e.lp) e).lp, qoj ((rest ++ (qb6 c (lpAt s e.lp) e).out).filter (qda (qb6 c (lpAt s e.lp) e).gone)), s.n + 1, s.over || (qb6 c (lpAt s e.lp) e).over⟩
def Sim.ready (c : Cfg) (s : Sim) : Bool := match s.pend with
  | [] => false
  | e :: _ => decide (e.time < c.fin)
def Sim.go (c : Cfg) (s : Sim) : Sim := match s.pend with
  | [] => s
  | e :: rest => s.step c e rest
def Sim.run (c : Cfg) : Nat → Sim → Sim
  | 0, s => s
  | k + 1, s => if s.ready c = true then Sim.run c k (s.go c) else s
def start (c : Cfg) : Sim := ⟨List.replicate c.lps.length [], (qic c.lps).map Prod.fst, qoj (qie c.lps), 0, false⟩
structure EvG (c : Cfg) (n : Nat) (e : Evt) : Prop where
  lp : 0 ≤ e.lp ∧ e.lp < c.lps.length
  time : 0 ≤ e.time ∧ e.time ≤ 1152921504606846976
  key : 2 ≤ e.key.length ∧ e.key.length ≤ 2 + n
  proc : 0 ≤ e.proc ∧ e.proc < 8
  arg : e.kind = 2 → 0 ≤ e.arg ∧ e.arg < 16
theorem EvG.mono {c : Cfg} {n m : Nat} {e : Evt} (h : EvG c n e) (hm : n ≤ m) : EvG c m e := ⟨h.lp, h.time, ⟨h.key.1, by have := h.key.2; omega⟩, h.proc, h.arg⟩
def LpG (c : Cfg) (n : Nat) (x : Lp) : Prop := x.procs.length ≤ 8 ∧ ∀ q ∈ x.procs, 0 ≤ q.prog ∧ q.prog < c.progs.length ∧ 0 ≤ q.pc ∧ q.pc ≤ ((c.progs[q.prog.toNat]?).getD []).length ∧ q.timer.length ≤ 2 + n
def qsw (l : List Evt) : Prop := l.Pairwise (fun a b => ¬ a.key = b.key)
def qaaa (c : Cfg) (x : Lp) (l : List Evt) : Lp := l.foldl (fun x e => (qb6 c x e).lp) x
def qnh (h : List Evt) (i : Nat) : List Evt := h.filter fun e => decide (e.lp = i)
structure SInv (c : Cfg) (s : Sim) (h : List Evt) : Prop where
  valid : Valid c
  n : s.n = h.length
  trl : s.trace.length = c.lps.length
  tr : ∀ i, i < c.lps.length → s.trace[i]? = some (qnh h i)
  lpl : s.lps.length = c.lps.length
  lp : ∀ x ∈ s.lps, LpG c h.length x
  sorted : s.pend.Pairwise leE
  keys : qsw (h ++ s.pend)
  ev : ∀ e ∈ h ++ s.pend, EvG c h.length e
  tim : ∀ e ∈ s.pend, e.kind = 2 → ∃ x q p, s.lps[e.lp.toNat]? = some x ∧ x.procs[e.proc.toNat]? = some q ∧ c.progs[q.prog.toNat]? = some p ∧ 0 ≤ e.arg ∧ e.arg < p.length
  par : ∀ e ∈ h ++ s.pend, e.key.length = 2 ∨ ∃ p ∈ h, ∃ m, e.key = p.key ++ [m] ∧ p.time < e.time
  ord : h.Pairwise leE
  ord2 : ∀ a ∈ h, ∀ b ∈ s.pend, leE a b
  fin : ∀ e ∈ h, e.time < c.fin
  len : s.pend.length ≤ 64 + 16 * h.length
  rep : ∀ i, i < c.lps.length → s.lps[i]? = some (qaaa c ((((qic c.lps).map Prod.fst)[i]?).getD ⟨0, 0, [], 0⟩) (qnh h i))
  rdy : ∀ i, i < c.lps.length → ∀ k e, (qnh h i)[k]? = some e → Ready c (qaaa c ((((qic c.lps).map Prod.fst)[i]?).getD ⟨0, 0, [], 0⟩) ((qnh h i).take k)) e
theorem qsw.dist {l : List Evt} (h : qsw l) : q8w l := h.imp fun hk hc => hk ((q1p _ _).1 hc).2
theorem qsw.perm {l l' : List Evt} (h : qsw l) (p : l'.Perm l) : qsw l' := (p.pairwise_iff (fun {x y} hxy hyx => hxy hyx.symm)).2 h
theorem leE_time {a b : Evt} (h : a.time < b.time) : leE a b := by
  have := qkd a.time b.time
  unfold leE qv4
  rw [if_neg (by omega)]; omega
section
variable {c : Cfg} {s : Sim} {h : List Evt}
theorem SInv.head (H : SInv c s h) {e : Evt} {rest : List Evt} (hp : s.pend = e :: rest) (hn : h.length ≤ 60) : ∃ x, s.lps[e.lp.toNat]? = some x ∧ lpAt s e.lp = x ∧ Ready c x e := by
  have he : e ∈ h ++ s.pend := by rw [hp]; simp
  have g := H.ev e he
  obtain ⟨x, hx⟩ : ∃ x, s.lps[e.lp.toNat]? = some x := ⟨_, List.getElem?_eq_getElem (by rw [H.lpl]; have := g.lp; omega)⟩
  have hl := H.lp x (List.mem_of_getElem? hx)
  refine ⟨x, hx, by unfold lpAt; rw [hx]; rfl, H.valid, hl.1, fun q hq => ?_, g.time, by have := g.key; omega, fun q ha hk => ?_⟩
  · obtain ⟨a, b, d, f, k⟩ := hl.2 q hq; exact ⟨a, b, d, f, by omega⟩
  · obtain ⟨_, _, hq, _⟩ := q5x ha
    obtain ⟨x', q', p, h1, h2, h3, h4, h5⟩ := H.tim e (by rw [hp]; simp) hk
    rw [hx] at h1; cases h1
    rw [hq] at h2; cases h2
    rw [h3]; exact ⟨h4, by show e.arg ≤ (p.length : Int); omega⟩
theorem q8i {e : Evt} {out : List Evt} (h : ∀ k ev ev', out[k]? = some ev → out[k + 1]? = some ev' → ∃ m m' : Int, ev.key = e.key ++ [m] ∧ ev'.key = e.key ++ [m'] ∧ m < m') :
    ∀ (d i : Nat) (a b : Evt), out[i]? = some a → out[i + d + 1]? = some b → ∃ m m' : Int, a.key = e.key ++ [m] ∧ b.key = e.key ++ [m'] ∧ m < m'
  | 0, i, a, b, ha, hb => h i a b ha hb
  | d + 1, i, a, b, ha, hb => by
    have hlt := (List.getElem?_eq_some_iff.1 hb).1
    obtain ⟨x, hx⟩ : ∃ x, out[i + d + 1]? = some x := ⟨_, List.getElem?_eq_getElem (by omega)⟩
    obtain ⟨m, m1, h1, h2, h3⟩ := q8i h d i a x ha hx
    obtain ⟨m2, m3, h4, h5, h6⟩ := h (i + d + 1) x b hx hb
    rw [h2] at h4
    have := List.append_cancel_left h4
    simp only [List.cons.injEq, and_true] at this
    exact ⟨m, m3, h1, h5, by omega⟩
theorem q9c {e : Evt} {out : List Evt} (h : ∀ k ev ev', out[k]? = some ev → out[k + 1]? = some ev' → ∃ m m' : Int, ev.key = e.key ++ [m] ∧ ev'.key = e.key ++ [m'] ∧ m < m') : qsw out := by
  unfold qsw
  rw [List.pairwise_iff_getElem]
  intro i j hi hj hij hk
  obtain ⟨m, m', h1, h2, h3⟩ := q8i h (j - i - 1) i out[i] out[j] (List.getElem?_eq_getElem hi) (by rw [show i + (j - i - 1) + 1 = j by omega]; exact List.getElem?_eq_getElem hj)
  rw [hk, h2] at h1
  have := List.append_cancel_left h1
  simp only [List.cons.injEq, and_true] at this
  omega
theorem SInv.keyNe (H : SInv c s h) {e : Evt} {rest : List Evt} (hp : s.pend = e :: rest) (hn : h.length ≤ 60) : qsw ((h ++ [e]) ++ (rest ++ (qb6 c (lpAt s e.lp) e).out)) := by
  obtain ⟨x, hx, hlx, R⟩ := H.head hp hn
  rw [hlx]
  obtain ⟨X, _, o1, o2⟩ := R.outs
  have hk := H.keys
  rw [hp] at hk
  have e1 : (h ++ [e]) ++ (rest ++ (qb6 c x e).out) = (h ++ e :: rest) ++ (qb6 c x e).out := by simp
  rw [e1]
  unfold qsw at hk ⊢
  rw [List.pairwise_append]
  refine ⟨hk, q9c o2, fun a ha b hb hab => ?_⟩
  obtain ⟨k, hkb⟩ := List.mem_iff_getElem?.1 hb
  obtain ⟨m, hm, _⟩ := (o1 k b hkb).key
  have ha' : a ∈ h ++ s.pend := by rw [hp]; exact ha
  have ge := H.ev e (by rw [hp]; simp)
  rw [hm] at hab
  rcases H.par a ha' with h2 | ⟨p, hp1, m', h2, _⟩
  · rw [hab] at h2; simp at h2; have := ge.key; omega
  · rw [hab] at h2
    have hlen := congrArg List.length h2
    simp at hlen
    have := (List.append_inj h2 hlen).1
    rw [List.pairwise_append] at hk
    exact hk.2.2 p hp1 e (by simp) this.symm
end
end Go.Proofs.YthkjkdbjgpeigaaGreat.K
