/- For every input the statement of this claim returns true: texts of its proof, joined (part 8). -/
import Derived.Test.YtbhhifdhlafklaaGWP06
set_option linter.unusedSectionVars false
set_option linter.unusedSimpArgs false
set_option linter.unusedVariables false
namespace Go.Proofs.Ytbhhifdhlafklaa.K
open Go.Ev
set_option maxRecDepth 10000
section
variable (g : Nat) (cl : Bool) (n : Nat)
def qbh (a m b : Nat) (D D' : List Evt) : Prop := (evL T).call qau [.sl 0 g 0 n cl, (ii a), (ii m), (ii b), (.fn (.func qq) [] [])] [.row 6 ((D).map Evt.r) g] = some (.tup [], [.row 6 ((D').map Evt.r) g])
structure Nums (x1 x2 y1 y2 a m b mid nn lo hi p start fin : Nat) : Prop where
 hX1 : 1 < x1 + x2
 hY1 : 1 < y1 + y2
 hb : n < 2 ^ 61
 hmid : mid = (a + b) / 2
 hnn : nn = mid + m
 hp : nn = p + 1
 hfin : nn = start + fin
 hm : m = a + (x1 + x2)
 hbb : b = m + (y1 + y2)
 hbn : b ≤ n
 hst : start = a + x1
 hfi : fin = m + y1
structure Wraps (x1 x2 y1 y2 a m b mid nn p start fin : Nat) : Prop where
 w1 : IntKind.i64.wrap ((m : Int) - (a : Int)) = ((x1 + x2 : Nat) : Int)
 h1 : ¬ ((x1 + x2 : Nat) : Int) = 1
 w2 : IntKind.i64.wrap ((b : Int) - (m : Int)) = ((y1 + y2 : Nat) : Int)
 h2 : ¬ ((y1 + y2 : Nat) : Int) = 1
 w3 : IntKind.i64.wrap ((a : Int) + (b : Int)) = ((a + b : Nat) : Int)
 w4 : IntKind.u64.wrap ((a + b : Nat) : Int) = ((a + b : Nat) : Int)
 w5 : ql3 .shr (.v (.int .u64 ((a + b : Nat) : Int))) (.v (.int .u64 1)) = some (.v (.int .u64 (mid : Int)))
 w6 : IntKind.i64.wrap (mid : Int) = (mid : Int)
 w7 : IntKind.i64.wrap ((mid : Int) + (m : Int)) = (nn : Int)
 w8 : IntKind.i64.wrap ((nn : Int) - 1) = (p : Int)
 w9 : IntKind.i64.wrap ((nn : Int) - (start : Int)) = (fin : Int)
 c5 : mid < fin ↔ start < m
 c6 : start < mid ↔ m < fin
theorem Nums.wraps {n x1 x2 y1 y2 a m b mid nn lo hi p start fin : Nat} (N : Nums n x1 x2 y1 y2 a m b mid nn lo hi p start fin) : Wraps x1 x2 y1 y2 a m b mid nn p start fin := by
 obtain ⟨hX1, hY1, hb, hmid, hnn, hp, hfin, hm, hbb, hbn, hst, hfi⟩ := N
 refine ⟨qfe hm (by omega), by omega, qfe hbb (by omega), by omega, qla (by omega), qq6 (by omega), qt5 (a + b) mid hmid, qrl (by omega), ?_, qr1 hp (by omega), qfe hfin (by omega), by omega, by omega⟩
 rw [hnn]; exact qla (by omega)
def qkn (a m b mid nn lo hi p start : Nat) (D : List Evt) : Prop := ∃ y, itB (exec (evL T) itL none qbj) (qs [0, 1, 2, 3, 4, 18, 19, 20, 21, 22] true 1) ⟨[(0, .sl 0 g 0 n cl), (1, (ii a)), (2, (ii m)), (3, (ii b)), (4, (.fn (.func qq) [] [])), (18, (ii mid)), (19, (ii nn)), (20, (ii lo)), (21, (ii hi)), (22, (ii p))], []⟩ [.row 6 ((D).map Evt.r) g] = some y ∧
   (y.1 = .exit 8 ∧ y.2.1.marks = [] ∧ y.2.2 = [.row 6 ((D).map Evt.r) g] ∧ Ev.look y.2.1.vars 0 = some (.sl 0 g 0 n cl) ∧ Ev.look y.2.1.vars 1 = some (ii a) ∧ Ev.look y.2.1.vars 2 = some (ii m) ∧ Ev.look y.2.1.vars 3 = some (ii b) ∧ Ev.look y.2.1.vars 4 = some (.fn (.func qq) [] []) ∧ Ev.look y.2.1.vars 18 = some (ii mid) ∧
    Ev.look y.2.1.vars 19 = some (ii nn) ∧ Ev.look y.2.1.vars 20 = some (ii start))
structure Steps (a m b mid start fin : Nat) (D D2 D3 D4 : List Evt) : Prop where
 s1 : start < m → m < fin → (evL T).call qbd [.sl 0 g 0 n cl, (ii start), (ii m), (ii fin), (.fn (.func qq) [] [])] [.row 6 ((D).map Evt.r) g] = some (.tup [], [.row 6 ((D2).map Evt.r) g])
 n1 : ¬ (start < m ∧ m < fin) → D2 = D
 s2 : a < start → start < mid → qbh g cl n a start mid D2 D3
 n2 : ¬ (a < start ∧ start < mid) → D3 = D2
 s3 : mid < fin → fin < b → qbh g cl n mid fin b D3 D4
 n3 : ¬ (mid < fin ∧ fin < b) → D4 = D3
theorem qz0 (x1 x2 y1 y2 a m b mid nn lo hi p start fin : Nat) (D D2 D3 D4 : List Evt) (N : Nums n x1 x2 y1 y2 a m b mid nn lo hi p start fin) (g1 : mid < m) (g2 : nn = b + lo)
  (d1 : start < m) (d2 : m < fin) (d3 : a < start) (d4 : fin < b)
  (hf : qkn g cl n a m b mid nn lo mid p start D) (hS : Steps g cl n a m b mid start fin D D2 D3 D4) : qbh g cl n a m b D D4 := by
 obtain ⟨s1, n1, s2, n2, s3, n3⟩ := hS
 obtain ⟨⟨y, e, σ⟩, k1, k2, k3, k4, k5, k6, k7, k8, k9, k10, k11, k12⟩ := hf
 obtain ⟨w1, h1, w2, h2, w3, w4, w5, w6, w7, w8, w9, c5, c6⟩ := N.wraps
 simp only at k1 k2 k3 k4 k5 k6 k7 k8 k9 k10 k11 k12
 subst k2; subst k4
 unfold qbh at *
 rw [qy qi qf]
 have g4 : (m : Int) > (mid : Int) := Int.ofNat_lt.2 g1
 have g5 : IntKind.i64.wrap ((nn : Int) - (b : Int)) = (lo : Int) := qfe g2 (by have := N.hnn; have := N.hmid; have := N.hb; have := N.hbn; have := N.hm; have := N.hbb; omega)
 have e1 : (start : Int) < (m : Int) := Int.ofNat_lt.2 d1
 have e2 : (m : Int) < (fin : Int) := Int.ofNat_lt.2 d2
 have e3 : (a : Int) < (start : Int) := Int.ofNat_lt.2 d3
 have e5 : (mid : Int) < (fin : Int) := Int.ofNat_lt.2 (c5.2 d1)
 have e6 : (start : Int) < (mid : Int) := Int.ofNat_lt.2 (c6.2 d2)
 have e4 : (fin : Int) < (b : Int) := Int.ofNat_lt.2 d4
 have r1 := s1 d1 d2
 have r2 := s2 d3 (c6.2 d2)
 have r3 := s3 (c5.2 d1) d4
 simp only [qg, w1, w2, w3, w4, w5, w6, w7, w8, w9, h1, h2, g4, k1, k3, k5, k6, k7, k8, k9, k10, k11, k12, e1, e2, e3, e5, e6, g5, r1, r2, r3, e4, qv, qn, Ev.exec, qb, qe, qc, qd3, qai, Ev.evs, Ev.Opnd.ev, Ev.Env.get, Ev.Env.set, Ev.look, qo, qaf, qcr, qaj, ql, qaq, qm, qak, Ev.kill, qah, qs, Ev.keep, qae, qx, qd, Ev.SObj.lo, qa4, qa8, qbm, qe1, qj, ↓qr, ↓qar, ↓reduceIte, zga, zgb, zgc, zfe, Nat.reduceAdd, Nat.reduceEqDiff, reduceCtorEq, zgv, zgw, zfc, zfa, zgx, zfd, zgu, zgy]
theorem qzx (x1 x2 y1 y2 a m b mid nn lo hi p start fin : Nat) (D D2 D3 D4 : List Evt) (N : Nums n x1 x2 y1 y2 a m b mid nn lo hi p start fin) (g1 : mid < m) (g2 : nn = b + lo)
  (d1 : start < m) (d2 : m < fin) (d3 : a < start) (d4 : ¬ fin < b)
  (hf : qkn g cl n a m b mid nn lo mid p start D) (hS : Steps g cl n a m b mid start fin D D2 D3 D4) : qbh g cl n a m b D D4 := by
 obtain ⟨s1, n1, s2, n2, s3, n3⟩ := hS
 obtain ⟨⟨y, e, σ⟩, k1, k2, k3, k4, k5, k6, k7, k8, k9, k10, k11, k12⟩ := hf
 obtain ⟨w1, h1, w2, h2, w3, w4, w5, w6, w7, w8, w9, c5, c6⟩ := N.wraps
 simp only at k1 k2 k3 k4 k5 k6 k7 k8 k9 k10 k11 k12
 subst k2; subst k4
 unfold qbh at *
 rw [qy qi qf]
 have g4 : (m : Int) > (mid : Int) := Int.ofNat_lt.2 g1
 have g5 : IntKind.i64.wrap ((nn : Int) - (b : Int)) = (lo : Int) := qfe g2 (by have := N.hnn; have := N.hmid; have := N.hb; have := N.hbn; have := N.hm; have := N.hbb; omega)
 have e1 : (start : Int) < (m : Int) := Int.ofNat_lt.2 d1
 have e2 : (m : Int) < (fin : Int) := Int.ofNat_lt.2 d2
 have e3 : (a : Int) < (start : Int) := Int.ofNat_lt.2 d3
 have e5 : (mid : Int) < (fin : Int) := Int.ofNat_lt.2 (c5.2 d1)
 have e6 : (start : Int) < (mid : Int) := Int.ofNat_lt.2 (c6.2 d2)
 have e4 : ¬ (fin : Int) < (b : Int) := fun h => d4 (Int.ofNat_lt.1 h)
 have r1 := s1 d1 d2
 have r2 := s2 d3 (c6.2 d2)
 have r3 := n3 (fun h => d4 h.2); subst r3
 simp only [qg, w1, w2, w3, w4, w5, w6, w7, w8, w9, h1, h2, g4, k1, k3, k5, k6, k7, k8, k9, k10, k11, k12, e1, e2, e3, e5, e6, g5, r1, r2, e4, qv, qn, Ev.exec, qb, qe, qc, qd3, qai, Ev.evs, Ev.Opnd.ev, Ev.Env.get, Ev.Env.set, Ev.look, qo, qaf, qcr, qaj, ql, qaq, qm, qak, Ev.kill, qah, qs, Ev.keep, qae, qx, qd, Ev.SObj.lo, qa4, qa8, qbm, qe1, qj, ↓qr, ↓qar, ↓reduceIte, zga, zgb, zgc, zfe, Nat.reduceAdd, Nat.reduceEqDiff, reduceCtorEq, zgv, zgw, zfc, zfa, zgx, zfd, zgu, zgy]
theorem qy8 (x1 x2 y1 y2 a m b mid nn lo hi p start fin : Nat) (D D2 D3 D4 : List Evt) (N : Nums n x1 x2 y1 y2 a m b mid nn lo hi p start fin) (g1 : mid < m) (g2 : nn = b + lo)
  (d1 : start < m) (d2 : m < fin) (d3 : ¬ a < start) (d4 : fin < b)
  (hf : qkn g cl n a m b mid nn lo mid p start D) (hS : Steps g cl n a m b mid start fin D D2 D3 D4) : qbh g cl n a m b D D4 := by
 obtain ⟨s1, n1, s2, n2, s3, n3⟩ := hS
 obtain ⟨⟨y, e, σ⟩, k1, k2, k3, k4, k5, k6, k7, k8, k9, k10, k11, k12⟩ := hf
 obtain ⟨w1, h1, w2, h2, w3, w4, w5, w6, w7, w8, w9, c5, c6⟩ := N.wraps
 simp only at k1 k2 k3 k4 k5 k6 k7 k8 k9 k10 k11 k12
 subst k2; subst k4
 unfold qbh at *
 rw [qy qi qf]
 have g4 : (m : Int) > (mid : Int) := Int.ofNat_lt.2 g1
 have g5 : IntKind.i64.wrap ((nn : Int) - (b : Int)) = (lo : Int) := qfe g2 (by have := N.hnn; have := N.hmid; have := N.hb; have := N.hbn; have := N.hm; have := N.hbb; omega)
 have e1 : (start : Int) < (m : Int) := Int.ofNat_lt.2 d1
 have e2 : (m : Int) < (fin : Int) := Int.ofNat_lt.2 d2
 have e3 : ¬ (a : Int) < (start : Int) := fun h => d3 (Int.ofNat_lt.1 h)
 have e5 : (mid : Int) < (fin : Int) := Int.ofNat_lt.2 (c5.2 d1)
 have e6 : (start : Int) < (mid : Int) := Int.ofNat_lt.2 (c6.2 d2)
 have e4 : (fin : Int) < (b : Int) := Int.ofNat_lt.2 d4
 have r1 := s1 d1 d2
 have r2 := n2 (fun h => d3 h.1); subst r2
 have r3 := s3 (c5.2 d1) d4
 simp only [qg, w1, w2, w3, w4, w5, w6, w7, w8, w9, h1, h2, g4, k1, k3, k5, k6, k7, k8, k9, k10, k11, k12, e1, e2, e3, e5, g5, r1, r3, e4, qv, qn, Ev.exec, qb, qe, qc, qd3, qai, Ev.evs, Ev.Opnd.ev, Ev.Env.get, Ev.Env.set, Ev.Env.unset, Ev.look, qo, qaf, qcr, qaj, ql, qaq, qm, qak, Ev.kill, qah, qs, Ev.keep, qae, qx, qd, Ev.SObj.lo, qa4, qa8, qbm, qe1, qj, ↓qr, ↓qar, ↓reduceIte, zga, zgb, zgc, zfe, Nat.reduceAdd, Nat.reduceEqDiff, reduceCtorEq, zgv, zgw, zfc, zfa, zgx, zfd, zgu, zgy]
theorem qzl (x1 x2 y1 y2 a m b mid nn lo hi p start fin : Nat) (D D2 D3 D4 : List Evt) (N : Nums n x1 x2 y1 y2 a m b mid nn lo hi p start fin) (g1 : mid < m) (g2 : nn = b + lo)
  (d1 : start < m) (d2 : m < fin) (d3 : ¬ a < start) (d4 : ¬ fin < b)
  (hf : qkn g cl n a m b mid nn lo mid p start D) (hS : Steps g cl n a m b mid start fin D D2 D3 D4) : qbh g cl n a m b D D4 := by
 obtain ⟨s1, n1, s2, n2, s3, n3⟩ := hS
 obtain ⟨⟨y, e, σ⟩, k1, k2, k3, k4, k5, k6, k7, k8, k9, k10, k11, k12⟩ := hf
 obtain ⟨w1, h1, w2, h2, w3, w4, w5, w6, w7, w8, w9, c5, c6⟩ := N.wraps
 simp only at k1 k2 k3 k4 k5 k6 k7 k8 k9 k10 k11 k12
 subst k2; subst k4
 unfold qbh at *
 rw [qy qi qf]
 have g4 : (m : Int) > (mid : Int) := Int.ofNat_lt.2 g1
 have g5 : IntKind.i64.wrap ((nn : Int) - (b : Int)) = (lo : Int) := qfe g2 (by have := N.hnn; have := N.hmid; have := N.hb; have := N.hbn; have := N.hm; have := N.hbb; omega)
 have e1 : (start : Int) < (m : Int) := Int.ofNat_lt.2 d1
 have e2 : (m : Int) < (fin : Int) := Int.ofNat_lt.2 d2
 have e3 : ¬ (a : Int) < (start : Int) := fun h => d3 (Int.ofNat_lt.1 h)
 have e5 : (mid : Int) < (fin : Int) := Int.ofNat_lt.2 (c5.2 d1)
 have e6 : (start : Int) < (mid : Int) := Int.ofNat_lt.2 (c6.2 d2)
 have e4 : ¬ (fin : Int) < (b : Int) := fun h => d4 (Int.ofNat_lt.1 h)
 have r1 := s1 d1 d2
 have r2 := n2 (fun h => d3 h.1); subst r2
 have r3 := n3 (fun h => d4 h.2); subst r3
 simp only [qg, w1, w2, w3, w4, w5, w6, w7, w8, w9, h1, h2, g4, k1, k3, k5, k6, k7, k8, k9, k10, k11, k12, e1, e2, e3, e5, g5, r1, e4, qv, qn, Ev.exec, qb, qe, qc, qd3, qai, Ev.evs, Ev.Opnd.ev, Ev.Env.get, Ev.Env.set, Ev.Env.unset, Ev.look, qo, qaf, qcr, qaj, ql, qaq, qm, qak, Ev.kill, qah, qs, Ev.keep, qae, qx, qd, Ev.SObj.lo, qa4, qa8, qbm, qe1, qj, ↓qr, ↓qar, ↓reduceIte, zga, zgb, zgc, zfe, Nat.reduceAdd, Nat.reduceEqDiff, reduceCtorEq, zgv, zgw, zfc, zfa, zgx, zfd, zgu, zgy]
theorem qy3 (x1 x2 y1 y2 a m b mid nn lo hi p start fin : Nat) (D D2 D3 D4 : List Evt) (N : Nums n x1 x2 y1 y2 a m b mid nn lo hi p start fin) (g1 : mid < m) (g2 : nn = b + lo)
  (d1 : start < m) (d2 : ¬ m < fin) (d3 : a < start) (d4 : fin < b)
  (hf : qkn g cl n a m b mid nn lo mid p start D) (hS : Steps g cl n a m b mid start fin D D2 D3 D4) : qbh g cl n a m b D D4 := by
 obtain ⟨s1, n1, s2, n2, s3, n3⟩ := hS
 obtain ⟨⟨y, e, σ⟩, k1, k2, k3, k4, k5, k6, k7, k8, k9, k10, k11, k12⟩ := hf
 obtain ⟨w1, h1, w2, h2, w3, w4, w5, w6, w7, w8, w9, c5, c6⟩ := N.wraps
 simp only at k1 k2 k3 k4 k5 k6 k7 k8 k9 k10 k11 k12
 subst k2; subst k4
 unfold qbh at *
 rw [qy qi qf]
 have g4 : (m : Int) > (mid : Int) := Int.ofNat_lt.2 g1
 have g5 : IntKind.i64.wrap ((nn : Int) - (b : Int)) = (lo : Int) := qfe g2 (by have := N.hnn; have := N.hmid; have := N.hb; have := N.hbn; have := N.hm; have := N.hbb; omega)
 have e1 : (start : Int) < (m : Int) := Int.ofNat_lt.2 d1
 have e2 : ¬ (m : Int) < (fin : Int) := fun h => d2 (Int.ofNat_lt.1 h)
 have e3 : (a : Int) < (start : Int) := Int.ofNat_lt.2 d3
 have e5 : (mid : Int) < (fin : Int) := Int.ofNat_lt.2 (c5.2 d1)
 have e6 : ¬ (start : Int) < (mid : Int) := fun h => d2 (c6.1 (Int.ofNat_lt.1 h))
 have e4 : (fin : Int) < (b : Int) := Int.ofNat_lt.2 d4
 have r1 := n1 (fun h => d2 h.2); subst r1
 have r2 := n2 (fun h => d2 (c6.1 h.2)); subst r2
 have r3 := s3 (c5.2 d1) d4
 simp only [qg, w1, w2, w3, w4, w5, w6, w7, w8, w9, h1, h2, g4, k1, k3, k5, k6, k7, k8, k9, k10, k11, k12, e1, e2, e3, e5, e6, g5, r3, e4, qv, qn, Ev.exec, qb, qe, qc, qd3, qai, Ev.evs, Ev.Opnd.ev, Ev.Env.get, Ev.Env.set, Ev.look, qo, qaf, qcr, qaj, ql, qaq, qm, qak, Ev.kill, qah, qs, Ev.keep, qae, qx, qd, Ev.SObj.lo, qa4, qa8, qbm, qe1, qj, ↓qr, ↓qar, ↓reduceIte, zga, zgb, zgc, zfe, Nat.reduceAdd, Nat.reduceEqDiff, reduceCtorEq, zgv, zgw, zfc, zfa, zgx, zfd, zgu, zgy]
theorem qxj (x1 x2 y1 y2 a m b mid nn lo hi p start fin : Nat) (D D2 D3 D4 : List Evt) (N : Nums n x1 x2 y1 y2 a m b mid nn lo hi p start fin) (g1 : mid < m) (g2 : nn = b + lo)
  (d1 : start < m) (d2 : ¬ m < fin) (d3 : a < start) (d4 : ¬ fin < b)
  (hf : qkn g cl n a m b mid nn lo mid p start D) (hS : Steps g cl n a m b mid start fin D D2 D3 D4) : qbh g cl n a m b D D4 := by
 obtain ⟨s1, n1, s2, n2, s3, n3⟩ := hS
 obtain ⟨⟨y, e, σ⟩, k1, k2, k3, k4, k5, k6, k7, k8, k9, k10, k11, k12⟩ := hf
 obtain ⟨w1, h1, w2, h2, w3, w4, w5, w6, w7, w8, w9, c5, c6⟩ := N.wraps
 simp only at k1 k2 k3 k4 k5 k6 k7 k8 k9 k10 k11 k12
 subst k2; subst k4
 unfold qbh at *
 rw [qy qi qf]
 have g4 : (m : Int) > (mid : Int) := Int.ofNat_lt.2 g1
 have g5 : IntKind.i64.wrap ((nn : Int) - (b : Int)) = (lo : Int) := qfe g2 (by have := N.hnn; have := N.hmid; have := N.hb; have := N.hbn; have := N.hm; have := N.hbb; omega)
 have e1 : (start : Int) < (m : Int) := Int.ofNat_lt.2 d1
 have e2 : ¬ (m : Int) < (fin : Int) := fun h => d2 (Int.ofNat_lt.1 h)
 have e3 : (a : Int) < (start : Int) := Int.ofNat_lt.2 d3
 have e5 : (mid : Int) < (fin : Int) := Int.ofNat_lt.2 (c5.2 d1)
 have e6 : ¬ (start : Int) < (mid : Int) := fun h => d2 (c6.1 (Int.ofNat_lt.1 h))
 have e4 : ¬ (fin : Int) < (b : Int) := fun h => d4 (Int.ofNat_lt.1 h)
 have r1 := n1 (fun h => d2 h.2); subst r1
 have r2 := n2 (fun h => d2 (c6.1 h.2)); subst r2
 have r3 := n3 (fun h => d4 h.2); subst r3
 simp only [qg, w1, w2, w3, w4, w5, w6, w7, w8, w9, h1, h2, g4, k1, k3, k6, k7, k8, k10, k11, k12, e1, e2, e3, e5, e6, g5, e4, qv, qn, Ev.exec, qb, qe, qc, qai, Ev.Opnd.ev, Ev.Env.get, Ev.Env.set, Ev.look, qo, qaf, qcr, qaj, ql, qaq, qm, qak, Ev.kill, qah, qs, Ev.keep, qae, qx, qd, Ev.SObj.lo, qa4, qa8, qbm, qe1, qj, ↓qr, ↓qar, ↓reduceIte, zga, zgb, zgc, zfe, Nat.reduceAdd, Nat.reduceEqDiff, reduceCtorEq, zgv, zgw, zfc, zfa, zgx, zfd, zgu, zgy]
theorem qyg (x1 x2 y1 y2 a m b mid nn lo hi p start fin : Nat) (D D2 D3 D4 : List Evt) (N : Nums n x1 x2 y1 y2 a m b mid nn lo hi p start fin) (g1 : mid < m) (g2 : nn = b + lo)
  (d1 : start < m) (d2 : ¬ m < fin) (d3 : ¬ a < start) (d4 : fin < b)
  (hf : qkn g cl n a m b mid nn lo mid p start D) (hS : Steps g cl n a m b mid start fin D D2 D3 D4) : qbh g cl n a m b D D4 := by
 obtain ⟨s1, n1, s2, n2, s3, n3⟩ := hS
 obtain ⟨⟨y, e, σ⟩, k1, k2, k3, k4, k5, k6, k7, k8, k9, k10, k11, k12⟩ := hf
 obtain ⟨w1, h1, w2, h2, w3, w4, w5, w6, w7, w8, w9, c5, c6⟩ := N.wraps
 simp only at k1 k2 k3 k4 k5 k6 k7 k8 k9 k10 k11 k12
 subst k2; subst k4
 unfold qbh at *
 rw [qy qi qf]
 have g4 : (m : Int) > (mid : Int) := Int.ofNat_lt.2 g1
 have g5 : IntKind.i64.wrap ((nn : Int) - (b : Int)) = (lo : Int) := qfe g2 (by have := N.hnn; have := N.hmid; have := N.hb; have := N.hbn; have := N.hm; have := N.hbb; omega)
 have e1 : (start : Int) < (m : Int) := Int.ofNat_lt.2 d1
 have e2 : ¬ (m : Int) < (fin : Int) := fun h => d2 (Int.ofNat_lt.1 h)
 have e3 : ¬ (a : Int) < (start : Int) := fun h => d3 (Int.ofNat_lt.1 h)
 have e5 : (mid : Int) < (fin : Int) := Int.ofNat_lt.2 (c5.2 d1)
 have e6 : ¬ (start : Int) < (mid : Int) := fun h => d2 (c6.1 (Int.ofNat_lt.1 h))
 have e4 : (fin : Int) < (b : Int) := Int.ofNat_lt.2 d4
 have r1 := n1 (fun h => d2 h.2); subst r1
 have r2 := n2 (fun h => d3 h.1); subst r2
 have r3 := s3 (c5.2 d1) d4
 simp only [qg, w1, w2, w3, w4, w5, w6, w7, w8, w9, h1, h2, g4, k1, k3, k5, k6, k7, k8, k9, k10, k11, k12, e1, e2, e3, e5, g5, r3, e4, qv, qn, Ev.exec, qb, qe, qc, qd3, qai, Ev.evs, Ev.Opnd.ev, Ev.Env.get, Ev.Env.set, Ev.Env.unset, Ev.look, qo, qaf, qcr, qaj, ql, qaq, qm, qak, Ev.kill, qah, qs, Ev.keep, qae, qx, qd, Ev.SObj.lo, qa4, qa8, qbm, qe1, qj, ↓qr, ↓qar, ↓reduceIte, zga, zgb, zgc, zfe, Nat.reduceAdd, Nat.reduceEqDiff, reduceCtorEq, zgv, zgw, zfc, zfa, zgx, zfd, zgu, zgy]
theorem qzz (x1 x2 y1 y2 a m b mid nn lo hi p start fin : Nat) (D D2 D3 D4 : List Evt) (N : Nums n x1 x2 y1 y2 a m b mid nn lo hi p start fin) (g1 : mid < m) (g2 : nn = b + lo)
  (d1 : start < m) (d2 : ¬ m < fin) (d3 : ¬ a < start) (d4 : ¬ fin < b)
  (hf : qkn g cl n a m b mid nn lo mid p start D) (hS : Steps g cl n a m b mid start fin D D2 D3 D4) : qbh g cl n a m b D D4 := by
 obtain ⟨s1, n1, s2, n2, s3, n3⟩ := hS
 obtain ⟨⟨y, e, σ⟩, k1, k2, k3, k4, k5, k6, k7, k8, k9, k10, k11, k12⟩ := hf
 obtain ⟨w1, h1, w2, h2, w3, w4, w5, w6, w7, w8, w9, c5, c6⟩ := N.wraps
 simp only at k1 k2 k3 k4 k5 k6 k7 k8 k9 k10 k11 k12
 subst k2; subst k4
 unfold qbh at *
 rw [qy qi qf]
 have g4 : (m : Int) > (mid : Int) := Int.ofNat_lt.2 g1
 have g5 : IntKind.i64.wrap ((nn : Int) - (b : Int)) = (lo : Int) := qfe g2 (by have := N.hnn; have := N.hmid; have := N.hb; have := N.hbn; have := N.hm; have := N.hbb; omega)
 have e1 : (start : Int) < (m : Int) := Int.ofNat_lt.2 d1
 have e2 : ¬ (m : Int) < (fin : Int) := fun h => d2 (Int.ofNat_lt.1 h)
 have e3 : ¬ (a : Int) < (start : Int) := fun h => d3 (Int.ofNat_lt.1 h)
 have e5 : (mid : Int) < (fin : Int) := Int.ofNat_lt.2 (c5.2 d1)
 have e6 : ¬ (start : Int) < (mid : Int) := fun h => d2 (c6.1 (Int.ofNat_lt.1 h))
 have e4 : ¬ (fin : Int) < (b : Int) := fun h => d4 (Int.ofNat_lt.1 h)
 have r1 := n1 (fun h => d2 h.2); subst r1
 have r2 := n2 (fun h => d3 h.1); subst r2
 have r3 := n3 (fun h => d4 h.2); subst r3
 simp only [qg, w1, w2, w3, w4, w5, w6, w7, w8, w9, h1, h2, g4, k1, k3, k6, k7, k8, k10, k11, k12, e1, e2, e3, e5, g5, e4, qv, qn, Ev.exec, qb, qe, qc, qai, Ev.Opnd.ev, Ev.Env.get, Ev.Env.set, Ev.Env.unset, Ev.look, qo, qaf, qcr, qaj, ql, qaq, qm, qak, Ev.kill, qah, qs, Ev.keep, qae, qx, qd, Ev.SObj.lo, qa4, qa8, qbm, qe1, qj, ↓qr, ↓qar, ↓reduceIte, zga, zgb, zgc, zfe, Nat.reduceAdd, Nat.reduceEqDiff, reduceCtorEq, zgv, zgw, zfc, zfa, zgx, zfd, zgu, zgy]
theorem qzv (x1 x2 y1 y2 a m b mid nn lo hi p start fin : Nat) (D D2 D3 D4 : List Evt) (N : Nums n x1 x2 y1 y2 a m b mid nn lo hi p start fin) (g1 : mid < m) (g2 : nn = b + lo)
  (d1 : ¬ start < m) (d2 : m < fin) (d3 : a < start) (d4 : fin < b)
  (hf : qkn g cl n a m b mid nn lo mid p start D) (hS : Steps g cl n a m b mid start fin D D2 D3 D4) : qbh g cl n a m b D D4 := by
 obtain ⟨s1, n1, s2, n2, s3, n3⟩ := hS
 obtain ⟨⟨y, e, σ⟩, k1, k2, k3, k4, k5, k6, k7, k8, k9, k10, k11, k12⟩ := hf
 obtain ⟨w1, h1, w2, h2, w3, w4, w5, w6, w7, w8, w9, c5, c6⟩ := N.wraps
 simp only at k1 k2 k3 k4 k5 k6 k7 k8 k9 k10 k11 k12
 subst k2; subst k4
 unfold qbh at *
 rw [qy qi qf]
 have g4 : (m : Int) > (mid : Int) := Int.ofNat_lt.2 g1
 have g5 : IntKind.i64.wrap ((nn : Int) - (b : Int)) = (lo : Int) := qfe g2 (by have := N.hnn; have := N.hmid; have := N.hb; have := N.hbn; have := N.hm; have := N.hbb; omega)
 have e1 : ¬ (start : Int) < (m : Int) := fun h => d1 (Int.ofNat_lt.1 h)
 have e2 : (m : Int) < (fin : Int) := Int.ofNat_lt.2 d2
 have e3 : (a : Int) < (start : Int) := Int.ofNat_lt.2 d3
 have e5 : ¬ (mid : Int) < (fin : Int) := fun h => d1 (c5.1 (Int.ofNat_lt.1 h))
 have e6 : (start : Int) < (mid : Int) := Int.ofNat_lt.2 (c6.2 d2)
 have e4 : (fin : Int) < (b : Int) := Int.ofNat_lt.2 d4
 have r1 := n1 (fun h => d1 h.1); subst r1
 have r2 := s2 d3 (c6.2 d2)
 have r3 := n3 (fun h => d1 (c5.1 h.1)); subst r3
 simp only [qg, w1, w2, w3, w4, w5, w6, w7, w8, w9, h1, h2, g4, k1, k3, k5, k6, k7, k9, k10, k11, k12, e1, e3, e5, e6, g5, r2, qv, qn, Ev.exec, qb, qe, qc, qd3, qai, Ev.evs, Ev.Opnd.ev, Ev.Env.get, Ev.Env.set, Ev.Env.unset, Ev.look, qo, qaf, qcr, qaj, ql, qaq, qm, qak, Ev.kill, qah, qs, Ev.keep, qae, qx, qd, Ev.SObj.lo, qa4, qa8, qbm, qe1, qj, ↓qr, ↓qar, ↓reduceIte, zga, zgb, zgc, zfe, Nat.reduceAdd, Nat.reduceEqDiff, reduceCtorEq, zgv, zgw, zfc, zfa, zgx, zfd, zgu, zgy]
theorem qzc (x1 x2 y1 y2 a m b mid nn lo hi p start fin : Nat) (D D2 D3 D4 : List Evt) (N : Nums n x1 x2 y1 y2 a m b mid nn lo hi p start fin) (g1 : mid < m) (g2 : nn = b + lo)
  (d1 : ¬ start < m) (d2 : m < fin) (d3 : a < start) (d4 : ¬ fin < b)
  (hf : qkn g cl n a m b mid nn lo mid p start D) (hS : Steps g cl n a m b mid start fin D D2 D3 D4) : qbh g cl n a m b D D4 := by
 obtain ⟨s1, n1, s2, n2, s3, n3⟩ := hS
 obtain ⟨⟨y, e, σ⟩, k1, k2, k3, k4, k5, k6, k7, k8, k9, k10, k11, k12⟩ := hf
 obtain ⟨w1, h1, w2, h2, w3, w4, w5, w6, w7, w8, w9, c5, c6⟩ := N.wraps
 simp only at k1 k2 k3 k4 k5 k6 k7 k8 k9 k10 k11 k12
 subst k2; subst k4
 unfold qbh at *
 rw [qy qi qf]
 have g4 : (m : Int) > (mid : Int) := Int.ofNat_lt.2 g1
 have g5 : IntKind.i64.wrap ((nn : Int) - (b : Int)) = (lo : Int) := qfe g2 (by have := N.hnn; have := N.hmid; have := N.hb; have := N.hbn; have := N.hm; have := N.hbb; omega)
 have e1 : ¬ (start : Int) < (m : Int) := fun h => d1 (Int.ofNat_lt.1 h)
 have e2 : (m : Int) < (fin : Int) := Int.ofNat_lt.2 d2
 have e3 : (a : Int) < (start : Int) := Int.ofNat_lt.2 d3
 have e5 : ¬ (mid : Int) < (fin : Int) := fun h => d1 (c5.1 (Int.ofNat_lt.1 h))
 have e6 : (start : Int) < (mid : Int) := Int.ofNat_lt.2 (c6.2 d2)
 have e4 : ¬ (fin : Int) < (b : Int) := fun h => d4 (Int.ofNat_lt.1 h)
 have r1 := n1 (fun h => d1 h.1); subst r1
 have r2 := s2 d3 (c6.2 d2)
 have r3 := n3 (fun h => d1 (c5.1 h.1)); subst r3
 simp only [qg, w1, w2, w3, w4, w5, w6, w7, w8, w9, h1, h2, g4, k1, k3, k5, k6, k7, k9, k10, k11, k12, e1, e3, e5, e6, g5, r2, qv, qn, Ev.exec, qb, qe, qc, qd3, qai, Ev.evs, Ev.Opnd.ev, Ev.Env.get, Ev.Env.set, Ev.Env.unset, Ev.look, qo, qaf, qcr, qaj, ql, qaq, qm, qak, Ev.kill, qah, qs, Ev.keep, qae, qx, qd, Ev.SObj.lo, qa4, qa8, qbm, qe1, qj, ↓qr, ↓qar, ↓reduceIte, zga, zgb, zgc, zfe, Nat.reduceAdd, Nat.reduceEqDiff, reduceCtorEq, zgv, zgw, zfc, zfa, zgx, zfd, zgu, zgy]
theorem qy2 (x1 x2 y1 y2 a m b mid nn lo hi p start fin : Nat) (D D2 D3 D4 : List Evt) (N : Nums n x1 x2 y1 y2 a m b mid nn lo hi p start fin) (g1 : mid < m) (g2 : nn = b + lo)
  (d1 : ¬ start < m) (d2 : m < fin) (d3 : ¬ a < start) (d4 : fin < b)
  (hf : qkn g cl n a m b mid nn lo mid p start D) (hS : Steps g cl n a m b mid start fin D D2 D3 D4) : qbh g cl n a m b D D4 := by
 obtain ⟨s1, n1, s2, n2, s3, n3⟩ := hS
 obtain ⟨⟨y, e, σ⟩, k1, k2, k3, k4, k5, k6, k7, k8, k9, k10, k11, k12⟩ := hf
 obtain ⟨w1, h1, w2, h2, w3, w4, w5, w6, w7, w8, w9, c5, c6⟩ := N.wraps
 simp only at k1 k2 k3 k4 k5 k6 k7 k8 k9 k10 k11 k12
 subst k2; subst k4
 unfold qbh at *
 rw [qy qi qf]
 have g4 : (m : Int) > (mid : Int) := Int.ofNat_lt.2 g1
 have g5 : IntKind.i64.wrap ((nn : Int) - (b : Int)) = (lo : Int) := qfe g2 (by have := N.hnn; have := N.hmid; have := N.hb; have := N.hbn; have := N.hm; have := N.hbb; omega)
 have e1 : ¬ (start : Int) < (m : Int) := fun h => d1 (Int.ofNat_lt.1 h)
 have e2 : (m : Int) < (fin : Int) := Int.ofNat_lt.2 d2
 have e3 : ¬ (a : Int) < (start : Int) := fun h => d3 (Int.ofNat_lt.1 h)
 have e5 : ¬ (mid : Int) < (fin : Int) := fun h => d1 (c5.1 (Int.ofNat_lt.1 h))
 have e6 : (start : Int) < (mid : Int) := Int.ofNat_lt.2 (c6.2 d2)
 have e4 : (fin : Int) < (b : Int) := Int.ofNat_lt.2 d4
 have r1 := n1 (fun h => d1 h.1); subst r1
 have r2 := n2 (fun h => d3 h.1); subst r2
 have r3 := n3 (fun h => d1 (c5.1 h.1)); subst r3
 simp only [qg, w1, w2, w3, w4, w5, w6, w7, w8, w9, h1, h2, g4, k1, k3, k6, k7, k10, k11, k12, e1, e3, e5, g5, qv, qn, Ev.exec, qb, qe, qc, qai, Ev.Opnd.ev, Ev.Env.get, Ev.Env.set, Ev.Env.unset, Ev.look, qo, qaf, qcr, qaj, ql, qaq, qm, qak, Ev.kill, qah, qs, Ev.keep, qae, qx, qd, Ev.SObj.lo, qa4, qa8, qbm, qe1, qj, ↓qr, ↓qar, ↓reduceIte, zga, zgb, zgc, zfe, Nat.reduceAdd, Nat.reduceEqDiff, reduceCtorEq, zgv, zgw, zfc, zfa, zgx, zfd, zgu, zgy]
theorem qxk (x1 x2 y1 y2 a m b mid nn lo hi p start fin : Nat) (D D2 D3 D4 : List Evt) (N : Nums n x1 x2 y1 y2 a m b mid nn lo hi p start fin) (g1 : mid < m) (g2 : nn = b + lo)
  (d1 : ¬ start < m) (d2 : m < fin) (d3 : ¬ a < start) (d4 : ¬ fin < b)
  (hf : qkn g cl n a m b mid nn lo mid p start D) (hS : Steps g cl n a m b mid start fin D D2 D3 D4) : qbh g cl n a m b D D4 := by
 obtain ⟨s1, n1, s2, n2, s3, n3⟩ := hS
 obtain ⟨⟨y, e, σ⟩, k1, k2, k3, k4, k5, k6, k7, k8, k9, k10, k11, k12⟩ := hf
 obtain ⟨w1, h1, w2, h2, w3, w4, w5, w6, w7, w8, w9, c5, c6⟩ := N.wraps
 simp only at k1 k2 k3 k4 k5 k6 k7 k8 k9 k10 k11 k12
 subst k2; subst k4
 unfold qbh at *
 rw [qy qi qf]
 have g4 : (m : Int) > (mid : Int) := Int.ofNat_lt.2 g1
 have g5 : IntKind.i64.wrap ((nn : Int) - (b : Int)) = (lo : Int) := qfe g2 (by have := N.hnn; have := N.hmid; have := N.hb; have := N.hbn; have := N.hm; have := N.hbb; omega)
 have e1 : ¬ (start : Int) < (m : Int) := fun h => d1 (Int.ofNat_lt.1 h)
 have e2 : (m : Int) < (fin : Int) := Int.ofNat_lt.2 d2
 have e3 : ¬ (a : Int) < (start : Int) := fun h => d3 (Int.ofNat_lt.1 h)
 have e5 : ¬ (mid : Int) < (fin : Int) := fun h => d1 (c5.1 (Int.ofNat_lt.1 h))
 have e6 : (start : Int) < (mid : Int) := Int.ofNat_lt.2 (c6.2 d2)
 have e4 : ¬ (fin : Int) < (b : Int) := fun h => d4 (Int.ofNat_lt.1 h)
 have r1 := n1 (fun h => d1 h.1); subst r1
 have r2 := n2 (fun h => d3 h.1); subst r2
 have r3 := n3 (fun h => d1 (c5.1 h.1)); subst r3
 simp only [qg, w1, w2, w3, w4, w5, w6, w7, w8, w9, h1, h2, g4, k1, k3, k6, k7, k10, k11, k12, e1, e3, e5, g5, qv, qn, Ev.exec, qb, qe, qc, qai, Ev.Opnd.ev, Ev.Env.get, Ev.Env.set, Ev.Env.unset, Ev.look, qo, qaf, qcr, qaj, ql, qaq, qm, qak, Ev.kill, qah, qs, Ev.keep, qae, qx, qd, Ev.SObj.lo, qa4, qa8, qbm, qe1, qj, ↓qr, ↓qar, ↓reduceIte, zga, zgb, zgc, zfe, Nat.reduceAdd, Nat.reduceEqDiff, reduceCtorEq, zgv, zgw, zfc, zfa, zgx, zfd, zgu, zgy]
theorem qx0 (x1 x2 y1 y2 a m b mid nn lo hi p start fin : Nat) (D D2 D3 D4 : List Evt) (N : Nums n x1 x2 y1 y2 a m b mid nn lo hi p start fin) (g1 : mid < m) (g2 : nn = b + lo)
  (d1 : ¬ start < m) (d2 : ¬ m < fin) (d3 : a < start) (d4 : fin < b)
  (hf : qkn g cl n a m b mid nn lo mid p start D) (hS : Steps g cl n a m b mid start fin D D2 D3 D4) : qbh g cl n a m b D D4 := by
 obtain ⟨s1, n1, s2, n2, s3, n3⟩ := hS
 obtain ⟨⟨y, e, σ⟩, k1, k2, k3, k4, k5, k6, k7, k8, k9, k10, k11, k12⟩ := hf
 obtain ⟨w1, h1, w2, h2, w3, w4, w5, w6, w7, w8, w9, c5, c6⟩ := N.wraps
 simp only at k1 k2 k3 k4 k5 k6 k7 k8 k9 k10 k11 k12
 subst k2; subst k4
 unfold qbh at *
 rw [qy qi qf]
 have g4 : (m : Int) > (mid : Int) := Int.ofNat_lt.2 g1
 have g5 : IntKind.i64.wrap ((nn : Int) - (b : Int)) = (lo : Int) := qfe g2 (by have := N.hnn; have := N.hmid; have := N.hb; have := N.hbn; have := N.hm; have := N.hbb; omega)
 have e1 : ¬ (start : Int) < (m : Int) := fun h => d1 (Int.ofNat_lt.1 h)
 have e2 : ¬ (m : Int) < (fin : Int) := fun h => d2 (Int.ofNat_lt.1 h)
 have e3 : (a : Int) < (start : Int) := Int.ofNat_lt.2 d3
 have e5 : ¬ (mid : Int) < (fin : Int) := fun h => d1 (c5.1 (Int.ofNat_lt.1 h))
 have e6 : ¬ (start : Int) < (mid : Int) := fun h => d2 (c6.1 (Int.ofNat_lt.1 h))
 have e4 : (fin : Int) < (b : Int) := Int.ofNat_lt.2 d4
 have r1 := n1 (fun h => d1 h.1); subst r1
 have r2 := n2 (fun h => d2 (c6.1 h.2)); subst r2
 have r3 := n3 (fun h => d1 (c5.1 h.1)); subst r3
 simp only [qg, w1, w2, w3, w4, w5, w6, w7, w8, w9, h1, h2, g4, k1, k3, k6, k7, k10, k11, k12, e1, e3, e5, e6, g5, qv, qn, Ev.exec, qb, qe, qc, qai, Ev.Opnd.ev, Ev.Env.get, Ev.Env.set, Ev.Env.unset, Ev.look, qo, qaf, qcr, qaj, ql, qaq, qm, qak, Ev.kill, qah, qs, Ev.keep, qae, qx, qd, Ev.SObj.lo, qa4, qa8, qbm, qe1, qj, ↓qr, ↓qar, ↓reduceIte, zga, zgb, zgc, zfe, Nat.reduceAdd, Nat.reduceEqDiff, reduceCtorEq, zgv, zgw, zfc, zfa, zgx, zfd, zgu, zgy]
theorem qx7 (x1 x2 y1 y2 a m b mid nn lo hi p start fin : Nat) (D D2 D3 D4 : List Evt) (N : Nums n x1 x2 y1 y2 a m b mid nn lo hi p start fin) (g1 : mid < m) (g2 : nn = b + lo)
  (d1 : ¬ start < m) (d2 : ¬ m < fin) (d3 : a < start) (d4 : ¬ fin < b)
  (hf : qkn g cl n a m b mid nn lo mid p start D) (hS : Steps g cl n a m b mid start fin D D2 D3 D4) : qbh g cl n a m b D D4 := by
 obtain ⟨s1, n1, s2, n2, s3, n3⟩ := hS
 obtain ⟨⟨y, e, σ⟩, k1, k2, k3, k4, k5, k6, k7, k8, k9, k10, k11, k12⟩ := hf
 obtain ⟨w1, h1, w2, h2, w3, w4, w5, w6, w7, w8, w9, c5, c6⟩ := N.wraps
 simp only at k1 k2 k3 k4 k5 k6 k7 k8 k9 k10 k11 k12
 subst k2; subst k4
 unfold qbh at *
 rw [qy qi qf]
 have g4 : (m : Int) > (mid : Int) := Int.ofNat_lt.2 g1
 have g5 : IntKind.i64.wrap ((nn : Int) - (b : Int)) = (lo : Int) := qfe g2 (by have := N.hnn; have := N.hmid; have := N.hb; have := N.hbn; have := N.hm; have := N.hbb; omega)
 have e1 : ¬ (start : Int) < (m : Int) := fun h => d1 (Int.ofNat_lt.1 h)
 have e2 : ¬ (m : Int) < (fin : Int) := fun h => d2 (Int.ofNat_lt.1 h)
 have e3 : (a : Int) < (start : Int) := Int.ofNat_lt.2 d3
 have e5 : ¬ (mid : Int) < (fin : Int) := fun h => d1 (c5.1 (Int.ofNat_lt.1 h))
 have e6 : ¬ (start : Int) < (mid : Int) := fun h => d2 (c6.1 (Int.ofNat_lt.1 h))
 have e4 : ¬ (fin : Int) < (b : Int) := fun h => d4 (Int.ofNat_lt.1 h)
 have r1 := n1 (fun h => d1 h.1); subst r1
 have r2 := n2 (fun h => d2 (c6.1 h.2)); subst r2
 have r3 := n3 (fun h => d1 (c5.1 h.1)); subst r3
 simp only [qg, w1, w2, w3, w4, w5, w6, w7, w8, w9, h1, h2, g4, k1, k3, k6, k7, k10, k11, k12, e1, e3, e5, e6, g5, qv, qn, Ev.exec, qb, qe, qc, qai, Ev.Opnd.ev, Ev.Env.get, Ev.Env.set, Ev.Env.unset, Ev.look, qo, qaf, qcr, qaj, ql, qaq, qm, qak, Ev.kill, qah, qs, Ev.keep, qae, qx, qd, Ev.SObj.lo, qa4, qa8, qbm, qe1, qj, ↓qr, ↓qar, ↓reduceIte, zga, zgb, zgc, zfe, Nat.reduceAdd, Nat.reduceEqDiff, reduceCtorEq, zgv, zgw, zfc, zfa, zgx, zfd, zgu, zgy]
theorem qx5 (x1 x2 y1 y2 a m b mid nn lo hi p start fin : Nat) (D D2 D3 D4 : List Evt) (N : Nums n x1 x2 y1 y2 a m b mid nn lo hi p start fin) (g1 : mid < m) (g2 : nn = b + lo)
  (d1 : ¬ start < m) (d2 : ¬ m < fin) (d3 : ¬ a < start) (d4 : fin < b)
  (hf : qkn g cl n a m b mid nn lo mid p start D) (hS : Steps g cl n a m b mid start fin D D2 D3 D4) : qbh g cl n a m b D D4 := by
 obtain ⟨s1, n1, s2, n2, s3, n3⟩ := hS
 obtain ⟨⟨y, e, σ⟩, k1, k2, k3, k4, k5, k6, k7, k8, k9, k10, k11, k12⟩ := hf
 obtain ⟨w1, h1, w2, h2, w3, w4, w5, w6, w7, w8, w9, c5, c6⟩ := N.wraps
 simp only at k1 k2 k3 k4 k5 k6 k7 k8 k9 k10 k11 k12
 subst k2; subst k4
 unfold qbh at *
 rw [qy qi qf]
 have g4 : (m : Int) > (mid : Int) := Int.ofNat_lt.2 g1
 have g5 : IntKind.i64.wrap ((nn : Int) - (b : Int)) = (lo : Int) := qfe g2 (by have := N.hnn; have := N.hmid; have := N.hb; have := N.hbn; have := N.hm; have := N.hbb; omega)
 have e1 : ¬ (start : Int) < (m : Int) := fun h => d1 (Int.ofNat_lt.1 h)
 have e2 : ¬ (m : Int) < (fin : Int) := fun h => d2 (Int.ofNat_lt.1 h)
 have e3 : ¬ (a : Int) < (start : Int) := fun h => d3 (Int.ofNat_lt.1 h)
 have e5 : ¬ (mid : Int) < (fin : Int) := fun h => d1 (c5.1 (Int.ofNat_lt.1 h))
 have e6 : ¬ (start : Int) < (mid : Int) := fun h => d2 (c6.1 (Int.ofNat_lt.1 h))
 have e4 : (fin : Int) < (b : Int) := Int.ofNat_lt.2 d4
 have r1 := n1 (fun h => d1 h.1); subst r1
 have r2 := n2 (fun h => d3 h.1); subst r2
 have r3 := n3 (fun h => d1 (c5.1 h.1)); subst r3
 simp only [qg, w1, w2, w3, w4, w5, w6, w7, w8, w9, h1, h2, g4, k1, k3, k6, k7, k10, k11, k12, e1, e3, e5, g5, qv, qn, Ev.exec, qb, qe, qc, qai, Ev.Opnd.ev, Ev.Env.get, Ev.Env.set, Ev.Env.unset, Ev.look, qo, qaf, qcr, qaj, ql, qaq, qm, qak, Ev.kill, qah, qs, Ev.keep, qae, qx, qd, Ev.SObj.lo, qa4, qa8, qbm, qe1, qj, ↓qr, ↓qar, ↓reduceIte, zga, zgb, zgc, zfe, Nat.reduceAdd, Nat.reduceEqDiff, reduceCtorEq, zgv, zgw, zfc, zfa, zgx, zfd, zgu, zgy]
theorem qze (x1 x2 y1 y2 a m b mid nn lo hi p start fin : Nat) (D D2 D3 D4 : List Evt) (N : Nums n x1 x2 y1 y2 a m b mid nn lo hi p start fin) (g1 : mid < m) (g2 : nn = b + lo)
  (d1 : ¬ start < m) (d2 : ¬ m < fin) (d3 : ¬ a < start) (d4 : ¬ fin < b)
  (hf : qkn g cl n a m b mid nn lo mid p start D) (hS : Steps g cl n a m b mid start fin D D2 D3 D4) : qbh g cl n a m b D D4 := by
 obtain ⟨s1, n1, s2, n2, s3, n3⟩ := hS
 obtain ⟨⟨y, e, σ⟩, k1, k2, k3, k4, k5, k6, k7, k8, k9, k10, k11, k12⟩ := hf
 obtain ⟨w1, h1, w2, h2, w3, w4, w5, w6, w7, w8, w9, c5, c6⟩ := N.wraps
 simp only at k1 k2 k3 k4 k5 k6 k7 k8 k9 k10 k11 k12
 subst k2; subst k4
 unfold qbh at *
 rw [qy qi qf]
 have g4 : (m : Int) > (mid : Int) := Int.ofNat_lt.2 g1
 have g5 : IntKind.i64.wrap ((nn : Int) - (b : Int)) = (lo : Int) := qfe g2 (by have := N.hnn; have := N.hmid; have := N.hb; have := N.hbn; have := N.hm; have := N.hbb; omega)
 have e1 : ¬ (start : Int) < (m : Int) := fun h => d1 (Int.ofNat_lt.1 h)
 have e2 : ¬ (m : Int) < (fin : Int) := fun h => d2 (Int.ofNat_lt.1 h)
 have e3 : ¬ (a : Int) < (start : Int) := fun h => d3 (Int.ofNat_lt.1 h)
 have e5 : ¬ (mid : Int) < (fin : Int) := fun h => d1 (c5.1 (Int.ofNat_lt.1 h))
 have e6 : ¬ (start : Int) < (mid : Int) := fun h => d2 (c6.1 (Int.ofNat_lt.1 h))
 have e4 : ¬ (fin : Int) < (b : Int) := fun h => d4 (Int.ofNat_lt.1 h)
 have r1 := n1 (fun h => d1 h.1); subst r1
 have r2 := n2 (fun h => d3 h.1); subst r2
 have r3 := n3 (fun h => d1 (c5.1 h.1)); subst r3
 simp only [qg, w1, w2, w3, w4, w5, w6, w7, w8, w9, h1, h2, g4, k1, k3, k6, k7, k10, k11, k12, e1, e3, e5, g5, qv, qn, Ev.exec, qb, qe, qc, qai, Ev.Opnd.ev, Ev.Env.get, Ev.Env.set, Ev.Env.unset, Ev.look, qo, qaf, qcr, qaj, ql, qaq, qm, qak, Ev.kill, qah, qs, Ev.keep, qae, qx, qd, Ev.SObj.lo, qa4, qa8, qbm, qe1, qj, ↓qr, ↓qar, ↓reduceIte, zga, zgb, zgc, zfe, Nat.reduceAdd, Nat.reduceEqDiff, reduceCtorEq, zgv, zgw, zfc, zfa, zgx, zfd, zgu, zgy]
theorem qyp (x1 x2 y1 y2 a m b mid nn lo hi p start fin : Nat) (D D2 D3 D4 : List Evt) (N : Nums n x1 x2 y1 y2 a m b mid nn lo hi p start fin) (g1 : ¬ mid < m)
  (d1 : start < m) (d2 : m < fin) (d3 : a < start) (d4 : fin < b)
  (hf : qkn g cl n a m b mid nn a m p start D) (hS : Steps g cl n a m b mid start fin D D2 D3 D4) : qbh g cl n a m b D D4 := by
 obtain ⟨s1, n1, s2, n2, s3, n3⟩ := hS
 obtain ⟨⟨y, e, σ⟩, k1, k2, k3, k4, k5, k6, k7, k8, k9, k10, k11, k12⟩ := hf
 obtain ⟨w1, h1, w2, h2, w3, w4, w5, w6, w7, w8, w9, c5, c6⟩ := N.wraps
 simp only at k1 k2 k3 k4 k5 k6 k7 k8 k9 k10 k11 k12
 subst k2; subst k4
 unfold qbh at *
 rw [qy qi qf]
 have g4 : ¬ (m : Int) > (mid : Int) := fun h => g1 (Int.ofNat_lt.1 h)
 have e1 : (start : Int) < (m : Int) := Int.ofNat_lt.2 d1
 have e2 : (m : Int) < (fin : Int) := Int.ofNat_lt.2 d2
 have e3 : (a : Int) < (start : Int) := Int.ofNat_lt.2 d3
 have e5 : (mid : Int) < (fin : Int) := Int.ofNat_lt.2 (c5.2 d1)
 have e6 : (start : Int) < (mid : Int) := Int.ofNat_lt.2 (c6.2 d2)
 have e4 : (fin : Int) < (b : Int) := Int.ofNat_lt.2 d4
 have r1 := s1 d1 d2
 have r2 := s2 d3 (c6.2 d2)
 have r3 := s3 (c5.2 d1) d4
 simp only [qg, w1, w2, w3, w4, w5, w6, w7, w8, w9, h1, h2, g4, k1, k3, k5, k6, k7, k8, k9, k10, k11, k12, e1, e2, e3, e5, e6, r1, r2, r3, e4, qv, qn, Ev.exec, qb, qe, qc, qd3, qai, Ev.evs, Ev.Opnd.ev, Ev.Env.get, Ev.Env.set, Ev.look, qo, qaf, qcr, qaj, ql, qaq, qm, qak, Ev.kill, qah, qs, Ev.keep, qae, qx, qd, Ev.SObj.lo, qa4, qa8, qbm, qe1, qj, ↓qr, ↓qar, ↓reduceIte, zga, zgb, zgc, zfe, Nat.reduceAdd, Nat.reduceEqDiff, reduceCtorEq, zgv, zgw, zfc, zfa, zgx, zfd, zgu, zgy]
theorem qz6 (x1 x2 y1 y2 a m b mid nn lo hi p start fin : Nat) (D D2 D3 D4 : List Evt) (N : Nums n x1 x2 y1 y2 a m b mid nn lo hi p start fin) (g1 : ¬ mid < m)
  (d1 : start < m) (d2 : m < fin) (d3 : a < start) (d4 : ¬ fin < b)
  (hf : qkn g cl n a m b mid nn a m p start D) (hS : Steps g cl n a m b mid start fin D D2 D3 D4) : qbh g cl n a m b D D4 := by
 obtain ⟨s1, n1, s2, n2, s3, n3⟩ := hS
 obtain ⟨⟨y, e, σ⟩, k1, k2, k3, k4, k5, k6, k7, k8, k9, k10, k11, k12⟩ := hf
 obtain ⟨w1, h1, w2, h2, w3, w4, w5, w6, w7, w8, w9, c5, c6⟩ := N.wraps
 simp only at k1 k2 k3 k4 k5 k6 k7 k8 k9 k10 k11 k12
 subst k2; subst k4
 unfold qbh at *
 rw [qy qi qf]
 have g4 : ¬ (m : Int) > (mid : Int) := fun h => g1 (Int.ofNat_lt.1 h)
 have e1 : (start : Int) < (m : Int) := Int.ofNat_lt.2 d1
 have e2 : (m : Int) < (fin : Int) := Int.ofNat_lt.2 d2
 have e3 : (a : Int) < (start : Int) := Int.ofNat_lt.2 d3
 have e5 : (mid : Int) < (fin : Int) := Int.ofNat_lt.2 (c5.2 d1)
 have e6 : (start : Int) < (mid : Int) := Int.ofNat_lt.2 (c6.2 d2)
 have e4 : ¬ (fin : Int) < (b : Int) := fun h => d4 (Int.ofNat_lt.1 h)
 have r1 := s1 d1 d2
 have r2 := s2 d3 (c6.2 d2)
 have r3 := n3 (fun h => d4 h.2); subst r3
 simp only [qg, w1, w2, w3, w4, w5, w6, w7, w8, w9, h1, h2, g4, k1, k3, k5, k6, k7, k8, k9, k10, k11, k12, e1, e2, e3, e5, e6, r1, r2, e4, qv, qn, Ev.exec, qb, qe, qc, qd3, qai, Ev.evs, Ev.Opnd.ev, Ev.Env.get, Ev.Env.set, Ev.look, qo, qaf, qcr, qaj, ql, qaq, qm, qak, Ev.kill, qah, qs, Ev.keep, qae, qx, qd, Ev.SObj.lo, qa4, qa8, qbm, qe1, qj, ↓qr, ↓qar, ↓reduceIte, zga, zgb, zgc, zfe, Nat.reduceAdd, Nat.reduceEqDiff, reduceCtorEq, zgv, zgw, zfc, zfa, zgx, zfd, zgu, zgy]
theorem qxo (x1 x2 y1 y2 a m b mid nn lo hi p start fin : Nat) (D D2 D3 D4 : List Evt) (N : Nums n x1 x2 y1 y2 a m b mid nn lo hi p start fin) (g1 : ¬ mid < m)
  (d1 : start < m) (d2 : m < fin) (d3 : ¬ a < start) (d4 : fin < b)
  (hf : qkn g cl n a m b mid nn a m p start D) (hS : Steps g cl n a m b mid start fin D D2 D3 D4) : qbh g cl n a m b D D4 := by
 obtain ⟨s1, n1, s2, n2, s3, n3⟩ := hS
 obtain ⟨⟨y, e, σ⟩, k1, k2, k3, k4, k5, k6, k7, k8, k9, k10, k11, k12⟩ := hf
 obtain ⟨w1, h1, w2, h2, w3, w4, w5, w6, w7, w8, w9, c5, c6⟩ := N.wraps
 simp only at k1 k2 k3 k4 k5 k6 k7 k8 k9 k10 k11 k12
 subst k2; subst k4
 unfold qbh at *
 rw [qy qi qf]
 have g4 : ¬ (m : Int) > (mid : Int) := fun h => g1 (Int.ofNat_lt.1 h)
 have e1 : (start : Int) < (m : Int) := Int.ofNat_lt.2 d1
 have e2 : (m : Int) < (fin : Int) := Int.ofNat_lt.2 d2
 have e3 : ¬ (a : Int) < (start : Int) := fun h => d3 (Int.ofNat_lt.1 h)
 have e5 : (mid : Int) < (fin : Int) := Int.ofNat_lt.2 (c5.2 d1)
 have e6 : (start : Int) < (mid : Int) := Int.ofNat_lt.2 (c6.2 d2)
 have e4 : (fin : Int) < (b : Int) := Int.ofNat_lt.2 d4
 have r1 := s1 d1 d2
 have r2 := n2 (fun h => d3 h.1); subst r2
 have r3 := s3 (c5.2 d1) d4
 simp only [qg, w1, w2, w3, w4, w5, w6, w7, w8, w9, h1, h2, g4, k1, k3, k5, k6, k7, k8, k9, k10, k11, k12, e1, e2, e3, e5, r1, r3, e4, qv, qn, Ev.exec, qb, qe, qc, qd3, qai, Ev.evs, Ev.Opnd.ev, Ev.Env.get, Ev.Env.set, Ev.Env.unset, Ev.look, qo, qaf, qcr, qaj, ql, qaq, qm, qak, Ev.kill, qah, qs, Ev.keep, qae, qx, qd, Ev.SObj.lo, qa4, qa8, qbm, qe1, qj, ↓qr, ↓qar, ↓reduceIte, zga, zgb, zgc, zfe, Nat.reduceAdd, Nat.reduceEqDiff, reduceCtorEq, zgv, zgw, zfc, zfa, zgx, zfd, zgu, zgy]
theorem q0d (x1 x2 y1 y2 a m b mid nn lo hi p start fin : Nat) (D D2 D3 D4 : List Evt) (N : Nums n x1 x2 y1 y2 a m b mid nn lo hi p start fin) (g1 : ¬ mid < m)
  (d1 : start < m) (d2 : m < fin) (d3 : ¬ a < start) (d4 : ¬ fin < b)
  (hf : qkn g cl n a m b mid nn a m p start D) (hS : Steps g cl n a m b mid start fin D D2 D3 D4) : qbh g cl n a m b D D4 := by
 obtain ⟨s1, n1, s2, n2, s3, n3⟩ := hS
 obtain ⟨⟨y, e, σ⟩, k1, k2, k3, k4, k5, k6, k7, k8, k9, k10, k11, k12⟩ := hf
 obtain ⟨w1, h1, w2, h2, w3, w4, w5, w6, w7, w8, w9, c5, c6⟩ := N.wraps
 simp only at k1 k2 k3 k4 k5 k6 k7 k8 k9 k10 k11 k12
 subst k2; subst k4
 unfold qbh at *
 rw [qy qi qf]
 have g4 : ¬ (m : Int) > (mid : Int) := fun h => g1 (Int.ofNat_lt.1 h)
 have e1 : (start : Int) < (m : Int) := Int.ofNat_lt.2 d1
 have e2 : (m : Int) < (fin : Int) := Int.ofNat_lt.2 d2
 have e3 : ¬ (a : Int) < (start : Int) := fun h => d3 (Int.ofNat_lt.1 h)
 have e5 : (mid : Int) < (fin : Int) := Int.ofNat_lt.2 (c5.2 d1)
 have e6 : (start : Int) < (mid : Int) := Int.ofNat_lt.2 (c6.2 d2)
 have e4 : ¬ (fin : Int) < (b : Int) := fun h => d4 (Int.ofNat_lt.1 h)
 have r1 := s1 d1 d2
 have r2 := n2 (fun h => d3 h.1); subst r2
 have r3 := n3 (fun h => d4 h.2); subst r3
 simp only [qg, w1, w2, w3, w4, w5, w6, w7, w8, w9, h1, h2, g4, k1, k3, k5, k6, k7, k8, k9, k10, k11, k12, e1, e2, e3, e5, r1, e4, qv, qn, Ev.exec, qb, qe, qc, qd3, qai, Ev.evs, Ev.Opnd.ev, Ev.Env.get, Ev.Env.set, Ev.Env.unset, Ev.look, qo, qaf, qcr, qaj, ql, qaq, qm, qak, Ev.kill, qah, qs, Ev.keep, qae, qx, qd, Ev.SObj.lo, qa4, qa8, qbm, qe1, qj, ↓qr, ↓qar, ↓reduceIte, zga, zgb, zgc, zfe, Nat.reduceAdd, Nat.reduceEqDiff, reduceCtorEq, zgv, zgw, zfc, zfa, zgx, zfd, zgu, zgy]
theorem qx2 (x1 x2 y1 y2 a m b mid nn lo hi p start fin : Nat) (D D2 D3 D4 : List Evt) (N : Nums n x1 x2 y1 y2 a m b mid nn lo hi p start fin) (g1 : ¬ mid < m)
  (d1 : start < m) (d2 : ¬ m < fin) (d3 : a < start) (d4 : fin < b)
  (hf : qkn g cl n a m b mid nn a m p start D) (hS : Steps g cl n a m b mid start fin D D2 D3 D4) : qbh g cl n a m b D D4 := by
 obtain ⟨s1, n1, s2, n2, s3, n3⟩ := hS
 obtain ⟨⟨y, e, σ⟩, k1, k2, k3, k4, k5, k6, k7, k8, k9, k10, k11, k12⟩ := hf
 obtain ⟨w1, h1, w2, h2, w3, w4, w5, w6, w7, w8, w9, c5, c6⟩ := N.wraps
 simp only at k1 k2 k3 k4 k5 k6 k7 k8 k9 k10 k11 k12
 subst k2; subst k4
 unfold qbh at *
 rw [qy qi qf]
 have g4 : ¬ (m : Int) > (mid : Int) := fun h => g1 (Int.ofNat_lt.1 h)
 have e1 : (start : Int) < (m : Int) := Int.ofNat_lt.2 d1
 have e2 : ¬ (m : Int) < (fin : Int) := fun h => d2 (Int.ofNat_lt.1 h)
 have e3 : (a : Int) < (start : Int) := Int.ofNat_lt.2 d3
 have e5 : (mid : Int) < (fin : Int) := Int.ofNat_lt.2 (c5.2 d1)
 have e6 : ¬ (start : Int) < (mid : Int) := fun h => d2 (c6.1 (Int.ofNat_lt.1 h))
 have e4 : (fin : Int) < (b : Int) := Int.ofNat_lt.2 d4
 have r1 := n1 (fun h => d2 h.2); subst r1
 have r2 := n2 (fun h => d2 (c6.1 h.2)); subst r2
 have r3 := s3 (c5.2 d1) d4
 simp only [qg, w1, w2, w3, w4, w5, w6, w7, w8, w9, h1, h2, g4, k1, k3, k5, k6, k7, k8, k9, k10, k11, k12, e1, e2, e3, e5, e6, r3, e4, qv, qn, Ev.exec, qb, qe, qc, qd3, qai, Ev.evs, Ev.Opnd.ev, Ev.Env.get, Ev.Env.set, Ev.look, qo, qaf, qcr, qaj, ql, qaq, qm, qak, Ev.kill, qah, qs, Ev.keep, qae, qx, qd, Ev.SObj.lo, qa4, qa8, qbm, qe1, qj, ↓qr, ↓qar, ↓reduceIte, zga, zgb, zgc, zfe, Nat.reduceAdd, Nat.reduceEqDiff, reduceCtorEq, zgv, zgw, zfc, zfa, zgx, zfd, zgu, zgy]
theorem qxw (x1 x2 y1 y2 a m b mid nn lo hi p start fin : Nat) (D D2 D3 D4 : List Evt) (N : Nums n x1 x2 y1 y2 a m b mid nn lo hi p start fin) (g1 : ¬ mid < m)
  (d1 : start < m) (d2 : ¬ m < fin) (d3 : a < start) (d4 : ¬ fin < b)
  (hf : qkn g cl n a m b mid nn a m p start D) (hS : Steps g cl n a m b mid start fin D D2 D3 D4) : qbh g cl n a m b D D4 := by
 obtain ⟨s1, n1, s2, n2, s3, n3⟩ := hS
 obtain ⟨⟨y, e, σ⟩, k1, k2, k3, k4, k5, k6, k7, k8, k9, k10, k11, k12⟩ := hf
 obtain ⟨w1, h1, w2, h2, w3, w4, w5, w6, w7, w8, w9, c5, c6⟩ := N.wraps
 simp only at k1 k2 k3 k4 k5 k6 k7 k8 k9 k10 k11 k12
 subst k2; subst k4
 unfold qbh at *
 rw [qy qi qf]
 have g4 : ¬ (m : Int) > (mid : Int) := fun h => g1 (Int.ofNat_lt.1 h)
 have e1 : (start : Int) < (m : Int) := Int.ofNat_lt.2 d1
 have e2 : ¬ (m : Int) < (fin : Int) := fun h => d2 (Int.ofNat_lt.1 h)
 have e3 : (a : Int) < (start : Int) := Int.ofNat_lt.2 d3
 have e5 : (mid : Int) < (fin : Int) := Int.ofNat_lt.2 (c5.2 d1)
 have e6 : ¬ (start : Int) < (mid : Int) := fun h => d2 (c6.1 (Int.ofNat_lt.1 h))
 have e4 : ¬ (fin : Int) < (b : Int) := fun h => d4 (Int.ofNat_lt.1 h)
 have r1 := n1 (fun h => d2 h.2); subst r1
 have r2 := n2 (fun h => d2 (c6.1 h.2)); subst r2
 have r3 := n3 (fun h => d4 h.2); subst r3
 simp only [qg, w1, w2, w3, w4, w5, w6, w7, w8, w9, h1, h2, g4, k1, k3, k6, k7, k8, k10, k11, k12, e1, e2, e3, e5, e6, e4, qv, qn, Ev.exec, qb, qe, qc, qai, Ev.Opnd.ev, Ev.Env.get, Ev.Env.set, Ev.look, qo, qaf, qcr, qaj, ql, qaq, qm, qak, Ev.kill, qah, qs, Ev.keep, qae, qx, qd, Ev.SObj.lo, qa4, qa8, qbm, qe1, qj, ↓qr, ↓qar, ↓reduceIte, zga, zgb, zgc, zfe, Nat.reduceAdd, Nat.reduceEqDiff, reduceCtorEq, zgv, zgw, zfc, zfa, zgx, zfd, zgu, zgy]
theorem qys (x1 x2 y1 y2 a m b mid nn lo hi p start fin : Nat) (D D2 D3 D4 : List Evt) (N : Nums n x1 x2 y1 y2 a m b mid nn lo hi p start fin) (g1 : ¬ mid < m)
  (d1 : start < m) (d2 : ¬ m < fin) (d3 : ¬ a < start) (d4 : fin < b)
  (hf : qkn g cl n a m b mid nn a m p start D) (hS : Steps g cl n a m b mid start fin D D2 D3 D4) : qbh g cl n a m b D D4 := by
 obtain ⟨s1, n1, s2, n2, s3, n3⟩ := hS
 obtain ⟨⟨y, e, σ⟩, k1, k2, k3, k4, k5, k6, k7, k8, k9, k10, k11, k12⟩ := hf
 obtain ⟨w1, h1, w2, h2, w3, w4, w5, w6, w7, w8, w9, c5, c6⟩ := N.wraps
 simp only at k1 k2 k3 k4 k5 k6 k7 k8 k9 k10 k11 k12
 subst k2; subst k4
 unfold qbh at *
 rw [qy qi qf]
 have g4 : ¬ (m : Int) > (mid : Int) := fun h => g1 (Int.ofNat_lt.1 h)
 have e1 : (start : Int) < (m : Int) := Int.ofNat_lt.2 d1
 have e2 : ¬ (m : Int) < (fin : Int) := fun h => d2 (Int.ofNat_lt.1 h)
 have e3 : ¬ (a : Int) < (start : Int) := fun h => d3 (Int.ofNat_lt.1 h)
 have e5 : (mid : Int) < (fin : Int) := Int.ofNat_lt.2 (c5.2 d1)
 have e6 : ¬ (start : Int) < (mid : Int) := fun h => d2 (c6.1 (Int.ofNat_lt.1 h))
 have e4 : (fin : Int) < (b : Int) := Int.ofNat_lt.2 d4
 have r1 := n1 (fun h => d2 h.2); subst r1
 have r2 := n2 (fun h => d3 h.1); subst r2
 have r3 := s3 (c5.2 d1) d4
 simp only [qg, w1, w2, w3, w4, w5, w6, w7, w8, w9, h1, h2, g4, k1, k3, k5, k6, k7, k8, k9, k10, k11, k12, e1, e2, e3, e5, r3, e4, qv, qn, Ev.exec, qb, qe, qc, qd3, qai, Ev.evs, Ev.Opnd.ev, Ev.Env.get, Ev.Env.set, Ev.Env.unset, Ev.look, qo, qaf, qcr, qaj, ql, qaq, qm, qak, Ev.kill, qah, qs, Ev.keep, qae, qx, qd, Ev.SObj.lo, qa4, qa8, qbm, qe1, qj, ↓qr, ↓qar, ↓reduceIte, zga, zgb, zgc, zfe, Nat.reduceAdd, Nat.reduceEqDiff, reduceCtorEq, zgv, zgw, zfc, zfa, zgx, zfd, zgu, zgy]
theorem qz1 (x1 x2 y1 y2 a m b mid nn lo hi p start fin : Nat) (D D2 D3 D4 : List Evt) (N : Nums n x1 x2 y1 y2 a m b mid nn lo hi p start fin) (g1 : ¬ mid < m)
  (d1 : start < m) (d2 : ¬ m < fin) (d3 : ¬ a < start) (d4 : ¬ fin < b)
  (hf : qkn g cl n a m b mid nn a m p start D) (hS : Steps g cl n a m b mid start fin D D2 D3 D4) : qbh g cl n a m b D D4 := by
 obtain ⟨s1, n1, s2, n2, s3, n3⟩ := hS
 obtain ⟨⟨y, e, σ⟩, k1, k2, k3, k4, k5, k6, k7, k8, k9, k10, k11, k12⟩ := hf
 obtain ⟨w1, h1, w2, h2, w3, w4, w5, w6, w7, w8, w9, c5, c6⟩ := N.wraps
 simp only at k1 k2 k3 k4 k5 k6 k7 k8 k9 k10 k11 k12
 subst k2; subst k4
 unfold qbh at *
 rw [qy qi qf]
 have g4 : ¬ (m : Int) > (mid : Int) := fun h => g1 (Int.ofNat_lt.1 h)
 have e1 : (start : Int) < (m : Int) := Int.ofNat_lt.2 d1
 have e2 : ¬ (m : Int) < (fin : Int) := fun h => d2 (Int.ofNat_lt.1 h)
 have e3 : ¬ (a : Int) < (start : Int) := fun h => d3 (Int.ofNat_lt.1 h)
 have e5 : (mid : Int) < (fin : Int) := Int.ofNat_lt.2 (c5.2 d1)
 have e6 : ¬ (start : Int) < (mid : Int) := fun h => d2 (c6.1 (Int.ofNat_lt.1 h))
 have e4 : ¬ (fin : Int) < (b : Int) := fun h => d4 (Int.ofNat_lt.1 h)
 have r1 := n1 (fun h => d2 h.2); subst r1
 have r2 := n2 (fun h => d3 h.1); subst r2
 have r3 := n3 (fun h => d4 h.2); subst r3
 simp only [qg, w1, w2, w3, w4, w5, w6, w7, w8, w9, h1, h2, g4, k1, k3, k6, k7, k8, k10, k11, k12, e1, e2, e3, e5, e4, qv, qn, Ev.exec, qb, qe, qc, qai, Ev.Opnd.ev, Ev.Env.get, Ev.Env.set, Ev.Env.unset, Ev.look, qo, qaf, qcr, qaj, ql, qaq, qm, qak, Ev.kill, qah, qs, Ev.keep, qae, qx, qd, Ev.SObj.lo, qa4, qa8, qbm, qe1, qj, ↓qr, ↓qar, ↓reduceIte, zga, zgb, zgc, zfe, Nat.reduceAdd, Nat.reduceEqDiff, reduceCtorEq, zgv, zgw, zfc, zfa, zgx, zfd, zgu, zgy]
theorem qzq (x1 x2 y1 y2 a m b mid nn lo hi p start fin : Nat) (D D2 D3 D4 : List Evt) (N : Nums n x1 x2 y1 y2 a m b mid nn lo hi p start fin) (g1 : ¬ mid < m)
  (d1 : ¬ start < m) (d2 : m < fin) (d3 : a < start) (d4 : fin < b)
  (hf : qkn g cl n a m b mid nn a m p start D) (hS : Steps g cl n a m b mid start fin D D2 D3 D4) : qbh g cl n a m b D D4 := by
 obtain ⟨s1, n1, s2, n2, s3, n3⟩ := hS
 obtain ⟨⟨y, e, σ⟩, k1, k2, k3, k4, k5, k6, k7, k8, k9, k10, k11, k12⟩ := hf
 obtain ⟨w1, h1, w2, h2, w3, w4, w5, w6, w7, w8, w9, c5, c6⟩ := N.wraps
 simp only at k1 k2 k3 k4 k5 k6 k7 k8 k9 k10 k11 k12
 subst k2; subst k4
 unfold qbh at *
 rw [qy qi qf]
 have g4 : ¬ (m : Int) > (mid : Int) := fun h => g1 (Int.ofNat_lt.1 h)
 have e1 : ¬ (start : Int) < (m : Int) := fun h => d1 (Int.ofNat_lt.1 h)
 have e2 : (m : Int) < (fin : Int) := Int.ofNat_lt.2 d2
 have e3 : (a : Int) < (start : Int) := Int.ofNat_lt.2 d3
 have e5 : ¬ (mid : Int) < (fin : Int) := fun h => d1 (c5.1 (Int.ofNat_lt.1 h))
 have e6 : (start : Int) < (mid : Int) := Int.ofNat_lt.2 (c6.2 d2)
 have e4 : (fin : Int) < (b : Int) := Int.ofNat_lt.2 d4
 have r1 := n1 (fun h => d1 h.1); subst r1
 have r2 := s2 d3 (c6.2 d2)
 have r3 := n3 (fun h => d1 (c5.1 h.1)); subst r3
 simp only [qg, w1, w2, w3, w4, w5, w6, w7, w8, w9, h1, h2, g4, k1, k3, k5, k6, k7, k9, k10, k11, k12, e1, e3, e5, e6, r2, qv, qn, Ev.exec, qb, qe, qc, qd3, qai, Ev.evs, Ev.Opnd.ev, Ev.Env.get, Ev.Env.set, Ev.Env.unset, Ev.look, qo, qaf, qcr, qaj, ql, qaq, qm, qak, Ev.kill, qah, qs, Ev.keep, qae, qx, qd, Ev.SObj.lo, qa4, qa8, qbm, qe1, qj, ↓qr, ↓qar, ↓reduceIte, zga, zgb, zgc, zfe, Nat.reduceAdd, Nat.reduceEqDiff, reduceCtorEq, zgv, zgw, zfc, zfa, zgx, zfd, zgu, zgy]
theorem qzo (x1 x2 y1 y2 a m b mid nn lo hi p start fin : Nat) (D D2 D3 D4 : List Evt) (N : Nums n x1 x2 y1 y2 a m b mid nn lo hi p start fin) (g1 : ¬ mid < m)
  (d1 : ¬ start < m) (d2 : m < fin) (d3 : a < start) (d4 : ¬ fin < b)
  (hf : qkn g cl n a m b mid nn a m p start D) (hS : Steps g cl n a m b mid start fin D D2 D3 D4) : qbh g cl n a m b D D4 := by
 obtain ⟨s1, n1, s2, n2, s3, n3⟩ := hS
 obtain ⟨⟨y, e, σ⟩, k1, k2, k3, k4, k5, k6, k7, k8, k9, k10, k11, k12⟩ := hf
 obtain ⟨w1, h1, w2, h2, w3, w4, w5, w6, w7, w8, w9, c5, c6⟩ := N.wraps
 simp only at k1 k2 k3 k4 k5 k6 k7 k8 k9 k10 k11 k12
 subst k2; subst k4
 unfold qbh at *
 rw [qy qi qf]
 have g4 : ¬ (m : Int) > (mid : Int) := fun h => g1 (Int.ofNat_lt.1 h)
 have e1 : ¬ (start : Int) < (m : Int) := fun h => d1 (Int.ofNat_lt.1 h)
 have e2 : (m : Int) < (fin : Int) := Int.ofNat_lt.2 d2
 have e3 : (a : Int) < (start : Int) := Int.ofNat_lt.2 d3
 have e5 : ¬ (mid : Int) < (fin : Int) := fun h => d1 (c5.1 (Int.ofNat_lt.1 h))
 have e6 : (start : Int) < (mid : Int) := Int.ofNat_lt.2 (c6.2 d2)
 have e4 : ¬ (fin : Int) < (b : Int) := fun h => d4 (Int.ofNat_lt.1 h)
 have r1 := n1 (fun h => d1 h.1); subst r1
 have r2 := s2 d3 (c6.2 d2)
 have r3 := n3 (fun h => d1 (c5.1 h.1)); subst r3
 simp only [qg, w1, w2, w3, w4, w5, w6, w7, w8, w9, h1, h2, g4, k1, k3, k5, k6, k7, k9, k10, k11, k12, e1, e3, e5, e6, r2, qv, qn, Ev.exec, qb, qe, qc, qd3, qai, Ev.evs, Ev.Opnd.ev, Ev.Env.get, Ev.Env.set, Ev.Env.unset, Ev.look, qo, qaf, qcr, qaj, ql, qaq, qm, qak, Ev.kill, qah, qs, Ev.keep, qae, qx, qd, Ev.SObj.lo, qa4, qa8, qbm, qe1, qj, ↓qr, ↓qar, ↓reduceIte, zga, zgb, zgc, zfe, Nat.reduceAdd, Nat.reduceEqDiff, reduceCtorEq, zgv, zgw, zfc, zfa, zgx, zfd, zgu, zgy]
theorem qzy (x1 x2 y1 y2 a m b mid nn lo hi p start fin : Nat) (D D2 D3 D4 : List Evt) (N : Nums n x1 x2 y1 y2 a m b mid nn lo hi p start fin) (g1 : ¬ mid < m)
  (d1 : ¬ start < m) (d2 : m < fin) (d3 : ¬ a < start) (d4 : fin < b)
  (hf : qkn g cl n a m b mid nn a m p start D) (hS : Steps g cl n a m b mid start fin D D2 D3 D4) : qbh g cl n a m b D D4 := by
 obtain ⟨s1, n1, s2, n2, s3, n3⟩ := hS
 obtain ⟨⟨y, e, σ⟩, k1, k2, k3, k4, k5, k6, k7, k8, k9, k10, k11, k12⟩ := hf
 obtain ⟨w1, h1, w2, h2, w3, w4, w5, w6, w7, w8, w9, c5, c6⟩ := N.wraps
 simp only at k1 k2 k3 k4 k5 k6 k7 k8 k9 k10 k11 k12
 subst k2; subst k4
 unfold qbh at *
 rw [qy qi qf]
 have g4 : ¬ (m : Int) > (mid : Int) := fun h => g1 (Int.ofNat_lt.1 h)
 have e1 : ¬ (start : Int) < (m : Int) := fun h => d1 (Int.ofNat_lt.1 h)
 have e2 : (m : Int) < (fin : Int) := Int.ofNat_lt.2 d2
 have e3 : ¬ (a : Int) < (start : Int) := fun h => d3 (Int.ofNat_lt.1 h)
 have e5 : ¬ (mid : Int) < (fin : Int) := fun h => d1 (c5.1 (Int.ofNat_lt.1 h))
 have e6 : (start : Int) < (mid : Int) := Int.ofNat_lt.2 (c6.2 d2)
 have e4 : (fin : Int) < (b : Int) := Int.ofNat_lt.2 d4
 have r1 := n1 (fun h => d1 h.1); subst r1
 have r2 := n2 (fun h => d3 h.1); subst r2
 have r3 := n3 (fun h => d1 (c5.1 h.1)); subst r3
 simp only [qg, w1, w2, w3, w4, w5, w6, w7, w8, w9, h1, h2, g4, k1, k3, k6, k7, k10, k11, k12, e1, e3, e5, qv, qn, Ev.exec, qb, qe, qc, qai, Ev.Opnd.ev, Ev.Env.get, Ev.Env.set, Ev.Env.unset, Ev.look, qo, qaf, qcr, qaj, ql, qaq, qm, qak, Ev.kill, qah, qs, Ev.keep, qae, qx, qd, Ev.SObj.lo, qa4, qa8, qbm, qe1, qj, ↓qr, ↓qar, ↓reduceIte, zga, zgb, zgc, zfe, Nat.reduceAdd, Nat.reduceEqDiff, reduceCtorEq, zgv, zgw, zfc, zfa, zgx, zfd, zgu, zgy]
theorem qzp (x1 x2 y1 y2 a m b mid nn lo hi p start fin : Nat) (D D2 D3 D4 : List Evt) (N : Nums n x1 x2 y1 y2 a m b mid nn lo hi p start fin) (g1 : ¬ mid < m)
  (d1 : ¬ start < m) (d2 : m < fin) (d3 : ¬ a < start) (d4 : ¬ fin < b)
  (hf : qkn g cl n a m b mid nn a m p start D) (hS : Steps g cl n a m b mid start fin D D2 D3 D4) : qbh g cl n a m b D D4 := by
 obtain ⟨s1, n1, s2, n2, s3, n3⟩ := hS
 obtain ⟨⟨y, e, σ⟩, k1, k2, k3, k4, k5, k6, k7, k8, k9, k10, k11, k12⟩ := hf
 obtain ⟨w1, h1, w2, h2, w3, w4, w5, w6, w7, w8, w9, c5, c6⟩ := N.wraps
 simp only at k1 k2 k3 k4 k5 k6 k7 k8 k9 k10 k11 k12
 subst k2; subst k4
 unfold qbh at *
 rw [qy qi qf]
 have g4 : ¬ (m : Int) > (mid : Int) := fun h => g1 (Int.ofNat_lt.1 h)
 have e1 : ¬ (start : Int) < (m : Int) := fun h => d1 (Int.ofNat_lt.1 h)
 have e2 : (m : Int) < (fin : Int) := Int.ofNat_lt.2 d2
 have e3 : ¬ (a : Int) < (start : Int) := fun h => d3 (Int.ofNat_lt.1 h)
 have e5 : ¬ (mid : Int) < (fin : Int) := fun h => d1 (c5.1 (Int.ofNat_lt.1 h))
 have e6 : (start : Int) < (mid : Int) := Int.ofNat_lt.2 (c6.2 d2)
 have e4 : ¬ (fin : Int) < (b : Int) := fun h => d4 (Int.ofNat_lt.1 h)
 have r1 := n1 (fun h => d1 h.1); subst r1
 have r2 := n2 (fun h => d3 h.1); subst r2
 have r3 := n3 (fun h => d1 (c5.1 h.1)); subst r3
 simp only [qg, w1, w2, w3, w4, w5, w6, w7, w8, w9, h1, h2, g4, k1, k3, k6, k7, k10, k11, k12, e1, e3, e5, qv, qn, Ev.exec, qb, qe, qc, qai, Ev.Opnd.ev, Ev.Env.get, Ev.Env.set, Ev.Env.unset, Ev.look, qo, qaf, qcr, qaj, ql, qaq, qm, qak, Ev.kill, qah, qs, Ev.keep, qae, qx, qd, Ev.SObj.lo, qa4, qa8, qbm, qe1, qj, ↓qr, ↓qar, ↓reduceIte, zga, zgb, zgc, zfe, Nat.reduceAdd, Nat.reduceEqDiff, reduceCtorEq, zgv, zgw, zfc, zfa, zgx, zfd, zgu, zgy]
theorem qxi (x1 x2 y1 y2 a m b mid nn lo hi p start fin : Nat) (D D2 D3 D4 : List Evt) (N : Nums n x1 x2 y1 y2 a m b mid nn lo hi p start fin) (g1 : ¬ mid < m)
  (d1 : ¬ start < m) (d2 : ¬ m < fin) (d3 : a < start) (d4 : fin < b)
  (hf : qkn g cl n a m b mid nn a m p start D) (hS : Steps g cl n a m b mid start fin D D2 D3 D4) : qbh g cl n a m b D D4 := by
 obtain ⟨s1, n1, s2, n2, s3, n3⟩ := hS
 obtain ⟨⟨y, e, σ⟩, k1, k2, k3, k4, k5, k6, k7, k8, k9, k10, k11, k12⟩ := hf
 obtain ⟨w1, h1, w2, h2, w3, w4, w5, w6, w7, w8, w9, c5, c6⟩ := N.wraps
 simp only at k1 k2 k3 k4 k5 k6 k7 k8 k9 k10 k11 k12
 subst k2; subst k4
 unfold qbh at *
 rw [qy qi qf]
 have g4 : ¬ (m : Int) > (mid : Int) := fun h => g1 (Int.ofNat_lt.1 h)
 have e1 : ¬ (start : Int) < (m : Int) := fun h => d1 (Int.ofNat_lt.1 h)
 have e2 : ¬ (m : Int) < (fin : Int) := fun h => d2 (Int.ofNat_lt.1 h)
 have e3 : (a : Int) < (start : Int) := Int.ofNat_lt.2 d3
 have e5 : ¬ (mid : Int) < (fin : Int) := fun h => d1 (c5.1 (Int.ofNat_lt.1 h))
 have e6 : ¬ (start : Int) < (mid : Int) := fun h => d2 (c6.1 (Int.ofNat_lt.1 h))
 have e4 : (fin : Int) < (b : Int) := Int.ofNat_lt.2 d4
 have r1 := n1 (fun h => d1 h.1); subst r1
 have r2 := n2 (fun h => d2 (c6.1 h.2)); subst r2
 have r3 := n3 (fun h => d1 (c5.1 h.1)); subst r3
 simp only [qg, w1, w2, w3, w4, w5, w6, w7, w8, w9, h1, h2, g4, k1, k3, k6, k7, k10, k11, k12, e1, e3, e5, e6, qv, qn, Ev.exec, qb, qe, qc, qai, Ev.Opnd.ev, Ev.Env.get, Ev.Env.set, Ev.Env.unset, Ev.look, qo, qaf, qcr, qaj, ql, qaq, qm, qak, Ev.kill, qah, qs, Ev.keep, qae, qx, qd, Ev.SObj.lo, qa4, qa8, qbm, qe1, qj, ↓qr, ↓qar, ↓reduceIte, zga, zgb, zgc, zfe, Nat.reduceAdd, Nat.reduceEqDiff, reduceCtorEq, zgv, zgw, zfc, zfa, zgx, zfd, zgu, zgy]
theorem qyi (x1 x2 y1 y2 a m b mid nn lo hi p start fin : Nat) (D D2 D3 D4 : List Evt) (N : Nums n x1 x2 y1 y2 a m b mid nn lo hi p start fin) (g1 : ¬ mid < m)
  (d1 : ¬ start < m) (d2 : ¬ m < fin) (d3 : a < start) (d4 : ¬ fin < b)
  (hf : qkn g cl n a m b mid nn a m p start D) (hS : Steps g cl n a m b mid start fin D D2 D3 D4) : qbh g cl n a m b D D4 := by
 obtain ⟨s1, n1, s2, n2, s3, n3⟩ := hS
 obtain ⟨⟨y, e, σ⟩, k1, k2, k3, k4, k5, k6, k7, k8, k9, k10, k11, k12⟩ := hf
 obtain ⟨w1, h1, w2, h2, w3, w4, w5, w6, w7, w8, w9, c5, c6⟩ := N.wraps
 simp only at k1 k2 k3 k4 k5 k6 k7 k8 k9 k10 k11 k12
 subst k2; subst k4
 unfold qbh at *
 rw [qy qi qf]
 have g4 : ¬ (m : Int) > (mid : Int) := fun h => g1 (Int.ofNat_lt.1 h)
 have e1 : ¬ (start : Int) < (m : Int) := fun h => d1 (Int.ofNat_lt.1 h)
 have e2 : ¬ (m : Int) < (fin : Int) := fun h => d2 (Int.ofNat_lt.1 h)
 have e3 : (a : Int) < (start : Int) := Int.ofNat_lt.2 d3
 have e5 : ¬ (mid : Int) < (fin : Int) := fun h => d1 (c5.1 (Int.ofNat_lt.1 h))
 have e6 : ¬ (start : Int) < (mid : Int) := fun h => d2 (c6.1 (Int.ofNat_lt.1 h))
 have e4 : ¬ (fin : Int) < (b : Int) := fun h => d4 (Int.ofNat_lt.1 h)
 have r1 := n1 (fun h => d1 h.1); subst r1
 have r2 := n2 (fun h => d2 (c6.1 h.2)); subst r2
 have r3 := n3 (fun h => d1 (c5.1 h.1)); subst r3
 simp only [qg, w1, w2, w3, w4, w5, w6, w7, w8, w9, h1, h2, g4, k1, k3, k6, k7, k10, k11, k12, e1, e3, e5, e6, qv, qn, Ev.exec, qb, qe, qc, qai, Ev.Opnd.ev, Ev.Env.get, Ev.Env.set, Ev.Env.unset, Ev.look, qo, qaf, qcr, qaj, ql, qaq, qm, qak, Ev.kill, qah, qs, Ev.keep, qae, qx, qd, Ev.SObj.lo, qa4, qa8, qbm, qe1, qj, ↓qr, ↓qar, ↓reduceIte, zga, zgb, zgc, zfe, Nat.reduceAdd, Nat.reduceEqDiff, reduceCtorEq, zgv, zgw, zfc, zfa, zgx, zfd, zgu, zgy]
theorem qxl (x1 x2 y1 y2 a m b mid nn lo hi p start fin : Nat) (D D2 D3 D4 : List Evt) (N : Nums n x1 x2 y1 y2 a m b mid nn lo hi p start fin) (g1 : ¬ mid < m)
  (d1 : ¬ start < m) (d2 : ¬ m < fin) (d3 : ¬ a < start) (d4 : fin < b)
  (hf : qkn g cl n a m b mid nn a m p start D) (hS : Steps g cl n a m b mid start fin D D2 D3 D4) : qbh g cl n a m b D D4 := by
 obtain ⟨s1, n1, s2, n2, s3, n3⟩ := hS
 obtain ⟨⟨y, e, σ⟩, k1, k2, k3, k4, k5, k6, k7, k8, k9, k10, k11, k12⟩ := hf
 obtain ⟨w1, h1, w2, h2, w3, w4, w5, w6, w7, w8, w9, c5, c6⟩ := N.wraps
 simp only at k1 k2 k3 k4 k5 k6 k7 k8 k9 k10 k11 k12
 subst k2; subst k4
 unfold qbh at *
 rw [qy qi qf]
 have g4 : ¬ (m : Int) > (mid : Int) := fun h => g1 (Int.ofNat_lt.1 h)
 have e1 : ¬ (start : Int) < (m : Int) := fun h => d1 (Int.ofNat_lt.1 h)
 have e2 : ¬ (m : Int) < (fin : Int) := fun h => d2 (Int.ofNat_lt.1 h)
 have e3 : ¬ (a : Int) < (start : Int) := fun h => d3 (Int.ofNat_lt.1 h)
 have e5 : ¬ (mid : Int) < (fin : Int) := fun h => d1 (c5.1 (Int.ofNat_lt.1 h))
 have e6 : ¬ (start : Int) < (mid : Int) := fun h => d2 (c6.1 (Int.ofNat_lt.1 h))
 have e4 : (fin : Int) < (b : Int) := Int.ofNat_lt.2 d4
 have r1 := n1 (fun h => d1 h.1); subst r1
 have r2 := n2 (fun h => d3 h.1); subst r2
 have r3 := n3 (fun h => d1 (c5.1 h.1)); subst r3
 simp only [qg, w1, w2, w3, w4, w5, w6, w7, w8, w9, h1, h2, g4, k1, k3, k6, k7, k10, k11, k12, e1, e3, e5, qv, qn, Ev.exec, qb, qe, qc, qai, Ev.Opnd.ev, Ev.Env.get, Ev.Env.set, Ev.Env.unset, Ev.look, qo, qaf, qcr, qaj, ql, qaq, qm, qak, Ev.kill, qah, qs, Ev.keep, qae, qx, qd, Ev.SObj.lo, qa4, qa8, qbm, qe1, qj, ↓qr, ↓qar, ↓reduceIte, zga, zgb, zgc, zfe, Nat.reduceAdd, Nat.reduceEqDiff, reduceCtorEq, zgv, zgw, zfc, zfa, zgx, zfd, zgu, zgy]
theorem qxz (x1 x2 y1 y2 a m b mid nn lo hi p start fin : Nat) (D D2 D3 D4 : List Evt) (N : Nums n x1 x2 y1 y2 a m b mid nn lo hi p start fin) (g1 : ¬ mid < m)
  (d1 : ¬ start < m) (d2 : ¬ m < fin) (d3 : ¬ a < start) (d4 : ¬ fin < b)
  (hf : qkn g cl n a m b mid nn a m p start D) (hS : Steps g cl n a m b mid start fin D D2 D3 D4) : qbh g cl n a m b D D4 := by
 obtain ⟨s1, n1, s2, n2, s3, n3⟩ := hS
 obtain ⟨⟨y, e, σ⟩, k1, k2, k3, k4, k5, k6, k7, k8, k9, k10, k11, k12⟩ := hf
 obtain ⟨w1, h1, w2, h2, w3, w4, w5, w6, w7, w8, w9, c5, c6⟩ := N.wraps
 simp only at k1 k2 k3 k4 k5 k6 k7 k8 k9 k10 k11 k12
 subst k2; subst k4
 unfold qbh at *
 rw [qy qi qf]
 have g4 : ¬ (m : Int) > (mid : Int) := fun h => g1 (Int.ofNat_lt.1 h)
 have e1 : ¬ (start : Int) < (m : Int) := fun h => d1 (Int.ofNat_lt.1 h)
 have e2 : ¬ (m : Int) < (fin : Int) := fun h => d2 (Int.ofNat_lt.1 h)
 have e3 : ¬ (a : Int) < (start : Int) := fun h => d3 (Int.ofNat_lt.1 h)
 have e5 : ¬ (mid : Int) < (fin : Int) := fun h => d1 (c5.1 (Int.ofNat_lt.1 h))
 have e6 : ¬ (start : Int) < (mid : Int) := fun h => d2 (c6.1 (Int.ofNat_lt.1 h))
 have e4 : ¬ (fin : Int) < (b : Int) := fun h => d4 (Int.ofNat_lt.1 h)
 have r1 := n1 (fun h => d1 h.1); subst r1
 have r2 := n2 (fun h => d3 h.1); subst r2
 have r3 := n3 (fun h => d1 (c5.1 h.1)); subst r3
 simp only [qg, w1, w2, w3, w4, w5, w6, w7, w8, w9, h1, h2, g4, k1, k3, k6, k7, k10, k11, k12, e1, e3, e5, qv, qn, Ev.exec, qb, qe, qc, qai, Ev.Opnd.ev, Ev.Env.get, Ev.Env.set, Ev.Env.unset, Ev.look, qo, qaf, qcr, qaj, ql, qaq, qm, qak, Ev.kill, qah, qs, Ev.keep, qae, qx, qd, Ev.SObj.lo, qa4, qa8, qbm, qe1, qj, ↓qr, ↓qar, ↓reduceIte, zga, zgb, zgc, zfe, Nat.reduceAdd, Nat.reduceEqDiff, reduceCtorEq, zgv, zgw, zfc, zfa, zgx, zfd, zgu, zgy]
theorem qaaw (x1 x2 y1 y2 a m b mid nn lo hi p start fin : Nat) (D D2 D3 D4 : List Evt) (N : Nums n x1 x2 y1 y2 a m b mid nn lo hi p start fin) (hlo : mid < m ∧ nn = b + lo ∧ hi = mid ∨ ¬ mid < m ∧ lo = a ∧ hi = m)
  (hfind : ∃ y, itB (exec (evL T) itL none qbj) (qs [0, 1, 2, 3, 4, 18, 19, 20, 21, 22] true 1) ⟨[(0, .sl 0 g 0 n cl), (1, (ii a)), (2, (ii m)), (3, (ii b)), (4, (.fn (.func qq) [] [])), (18, (ii mid)), (19, (ii nn)), (20, (ii lo)), (21, (ii hi)), (22, (ii p))], []⟩ [.row 6 ((D).map Evt.r) g] = some y ∧
   (y.1 = .exit 8 ∧ y.2.1.marks = [] ∧ y.2.2 = [.row 6 ((D).map Evt.r) g] ∧ Ev.look y.2.1.vars 0 = some (.sl 0 g 0 n cl) ∧ Ev.look y.2.1.vars 1 = some (ii a) ∧ Ev.look y.2.1.vars 2 = some (ii m) ∧ Ev.look y.2.1.vars 3 = some (ii b) ∧ Ev.look y.2.1.vars 4 = some (.fn (.func qq) [] []) ∧ Ev.look y.2.1.vars 18 = some (ii mid) ∧
    Ev.look y.2.1.vars 19 = some (ii nn) ∧ Ev.look y.2.1.vars 20 = some (ii start)))
  (s1 : start < m → m < fin → (evL T).call qbd [.sl 0 g 0 n cl, (ii start), (ii m), (ii fin), (.fn (.func qq) [] [])] [.row 6 ((D).map Evt.r) g] = some (.tup [], [.row 6 ((D2).map Evt.r) g])) (n1 : ¬ (start < m ∧ m < fin) → D2 = D)
  (s2 : a < start → start < mid → qbh g cl n a start mid D2 D3) (n2 : ¬ (a < start ∧ start < mid) → D3 = D2)
  (s3 : mid < fin → fin < b → qbh g cl n mid fin b D3 D4) (n3 : ¬ (mid < fin ∧ fin < b) → D4 = D3) : qbh g cl n a m b D D4 := by
 rcases hlo with ⟨g1, g2, rfl⟩ | ⟨g1, rfl, rfl⟩
 ·rcases Classical.em (start < m) with d1 | d1 <;> rcases Classical.em (m < fin) with d2 | d2 <;> rcases Classical.em (a < start) with d3 | d3 <;> rcases Classical.em (fin < b) with d4 | d4
  ·exact qz0 g cl n x1 x2 y1 y2 a m b hi nn lo hi p start fin D D2 D3 D4 N g1 g2 d1 d2 d3 d4 hfind ⟨s1, n1, s2, n2, s3, n3⟩
  ·exact qzx g cl n x1 x2 y1 y2 a m b hi nn lo hi p start fin D D2 D3 D4 N g1 g2 d1 d2 d3 d4 hfind ⟨s1, n1, s2, n2, s3, n3⟩
  ·exact qy8 g cl n x1 x2 y1 y2 a m b hi nn lo hi p start fin D D2 D3 D4 N g1 g2 d1 d2 d3 d4 hfind ⟨s1, n1, s2, n2, s3, n3⟩
  ·exact qzl g cl n x1 x2 y1 y2 a m b hi nn lo hi p start fin D D2 D3 D4 N g1 g2 d1 d2 d3 d4 hfind ⟨s1, n1, s2, n2, s3, n3⟩
  ·exact qy3 g cl n x1 x2 y1 y2 a m b hi nn lo hi p start fin D D2 D3 D4 N g1 g2 d1 d2 d3 d4 hfind ⟨s1, n1, s2, n2, s3, n3⟩
  ·exact qxj g cl n x1 x2 y1 y2 a m b hi nn lo hi p start fin D D2 D3 D4 N g1 g2 d1 d2 d3 d4 hfind ⟨s1, n1, s2, n2, s3, n3⟩
  ·exact qyg g cl n x1 x2 y1 y2 a m b hi nn lo hi p start fin D D2 D3 D4 N g1 g2 d1 d2 d3 d4 hfind ⟨s1, n1, s2, n2, s3, n3⟩
  ·exact qzz g cl n x1 x2 y1 y2 a m b hi nn lo hi p start fin D D2 D3 D4 N g1 g2 d1 d2 d3 d4 hfind ⟨s1, n1, s2, n2, s3, n3⟩
  ·exact qzv g cl n x1 x2 y1 y2 a m b hi nn lo hi p start fin D D2 D3 D4 N g1 g2 d1 d2 d3 d4 hfind ⟨s1, n1, s2, n2, s3, n3⟩
  ·exact qzc g cl n x1 x2 y1 y2 a m b hi nn lo hi p start fin D D2 D3 D4 N g1 g2 d1 d2 d3 d4 hfind ⟨s1, n1, s2, n2, s3, n3⟩
  ·exact qy2 g cl n x1 x2 y1 y2 a m b hi nn lo hi p start fin D D2 D3 D4 N g1 g2 d1 d2 d3 d4 hfind ⟨s1, n1, s2, n2, s3, n3⟩
  ·exact qxk g cl n x1 x2 y1 y2 a m b hi nn lo hi p start fin D D2 D3 D4 N g1 g2 d1 d2 d3 d4 hfind ⟨s1, n1, s2, n2, s3, n3⟩
  ·exact qx0 g cl n x1 x2 y1 y2 a m b hi nn lo hi p start fin D D2 D3 D4 N g1 g2 d1 d2 d3 d4 hfind ⟨s1, n1, s2, n2, s3, n3⟩
  ·exact qx7 g cl n x1 x2 y1 y2 a m b hi nn lo hi p start fin D D2 D3 D4 N g1 g2 d1 d2 d3 d4 hfind ⟨s1, n1, s2, n2, s3, n3⟩
  ·exact qx5 g cl n x1 x2 y1 y2 a m b hi nn lo hi p start fin D D2 D3 D4 N g1 g2 d1 d2 d3 d4 hfind ⟨s1, n1, s2, n2, s3, n3⟩
  ·exact qze g cl n x1 x2 y1 y2 a m b hi nn lo hi p start fin D D2 D3 D4 N g1 g2 d1 d2 d3 d4 hfind ⟨s1, n1, s2, n2, s3, n3⟩
 ·rcases Classical.em (start < hi) with d1 | d1 <;> rcases Classical.em (hi < fin) with d2 | d2 <;> rcases Classical.em (lo < start) with d3 | d3 <;> rcases Classical.em (fin < b) with d4 | d4
  ·exact qyp g cl n x1 x2 y1 y2 lo hi b mid nn lo hi p start fin D D2 D3 D4 N g1 d1 d2 d3 d4 hfind ⟨s1, n1, s2, n2, s3, n3⟩
  ·exact qz6 g cl n x1 x2 y1 y2 lo hi b mid nn lo hi p start fin D D2 D3 D4 N g1 d1 d2 d3 d4 hfind ⟨s1, n1, s2, n2, s3, n3⟩
  ·exact qxo g cl n x1 x2 y1 y2 lo hi b mid nn lo hi p start fin D D2 D3 D4 N g1 d1 d2 d3 d4 hfind ⟨s1, n1, s2, n2, s3, n3⟩
  ·exact q0d g cl n x1 x2 y1 y2 lo hi b mid nn lo hi p start fin D D2 D3 D4 N g1 d1 d2 d3 d4 hfind ⟨s1, n1, s2, n2, s3, n3⟩
  ·exact qx2 g cl n x1 x2 y1 y2 lo hi b mid nn lo hi p start fin D D2 D3 D4 N g1 d1 d2 d3 d4 hfind ⟨s1, n1, s2, n2, s3, n3⟩
  ·exact qxw g cl n x1 x2 y1 y2 lo hi b mid nn lo hi p start fin D D2 D3 D4 N g1 d1 d2 d3 d4 hfind ⟨s1, n1, s2, n2, s3, n3⟩
  ·exact qys g cl n x1 x2 y1 y2 lo hi b mid nn lo hi p start fin D D2 D3 D4 N g1 d1 d2 d3 d4 hfind ⟨s1, n1, s2, n2, s3, n3⟩
  ·exact qz1 g cl n x1 x2 y1 y2 lo hi b mid nn lo hi p start fin D D2 D3 D4 N g1 d1 d2 d3 d4 hfind ⟨s1, n1, s2, n2, s3, n3⟩
  ·exact qzq g cl n x1 x2 y1 y2 lo hi b mid nn lo hi p start fin D D2 D3 D4 N g1 d1 d2 d3 d4 hfind ⟨s1, n1, s2, n2, s3, n3⟩
  ·exact qzo g cl n x1 x2 y1 y2 lo hi b mid nn lo hi p start fin D D2 D3 D4 N g1 d1 d2 d3 d4 hfind ⟨s1, n1, s2, n2, s3, n3⟩
  ·exact qzy g cl n x1 x2 y1 y2 lo hi b mid nn lo hi p start fin D D2 D3 D4 N g1 d1 d2 d3 d4 hfind ⟨s1, n1, s2, n2, s3, n3⟩
  ·exact qzp g cl n x1 x2 y1 y2 lo hi b mid nn lo hi p start fin D D2 D3 D4 N g1 d1 d2 d3 d4 hfind ⟨s1, n1, s2, n2, s3, n3⟩
  ·exact qxi g cl n x1 x2 y1 y2 lo hi b mid nn lo hi p start fin D D2 D3 D4 N g1 d1 d2 d3 d4 hfind ⟨s1, n1, s2, n2, s3, n3⟩
  ·exact qyi g cl n x1 x2 y1 y2 lo hi b mid nn lo hi p start fin D D2 D3 D4 N g1 d1 d2 d3 d4 hfind ⟨s1, n1, s2, n2, s3, n3⟩
  ·exact qxl g cl n x1 x2 y1 y2 lo hi b mid nn lo hi p start fin D D2 D3 D4 N g1 d1 d2 d3 d4 hfind ⟨s1, n1, s2, n2, s3, n3⟩
  ·exact qxz g cl n x1 x2 y1 y2 lo hi b mid nn lo hi p start fin D D2 D3 D4 N g1 d1 d2 d3 d4 hfind ⟨s1, n1, s2, n2, s3, n3⟩
end
set_option maxRecDepth 10000
section
variable (g : Nat) (cl : Bool) (n : Nat)
theorem qzi (hb : n < 2 ^ 61) : ∀ (k : Nat) (P X Y Q : List Evt), X.length + Y.length ≤ k → 0 < X.length → 0 < Y.length → X.Pairwise leE → Y.Pairwise leE → n = (P ++ (X ++ (Y ++ Q))).length → qct (P ++ (X ++ (Y ++ Q))) →
  ∀ a m b : Nat, a = P.length → m = a + X.length → b = m + Y.length → ∃ Z : List Evt, Z.Perm (X ++ Y) ∧ Z.Pairwise leE ∧ qbh g cl n a m b (P ++ (X ++ (Y ++ Q))) (P ++ (Z ++ Q)) := by
 intro k
 induction k with
 | zero => intro P X Y Q h1 h2 h3; omega
 | succ k ih =>
  intro P X Y Q hk hX0 hY0 hX hY hn hkeys a m b ha hm hbb
  by_cases hx : X.length = 1
  ·obtain ⟨x, rfl⟩ := List.length_eq_one_iff.1 hx
   simp only [zgm, zgl, zga, zgb] at hn hkeys hm ⊢
   exact q7r g cl n P Y Q x hY hY0 hn hb hkeys a m b ha hm hbb
  by_cases hy : Y.length = 1
  ·obtain ⟨y, rfl⟩ := List.length_eq_one_iff.1 hy
   simp only [zgm, zgl, zga, zgb] at hn hkeys hbb ⊢
   exact q8i g cl n P X Q y hX (by omega) hn hb hkeys a m b ha hm hbb
  have hlen : n = P.length + (X.length + (Y.length + Q.length)) := by rw [hn]; simp
  obtain ⟨mid, hmid⟩ : ∃ mid, mid = (a + b) / 2 := ⟨_, rfl⟩
  obtain ⟨nn, hnn⟩ : ∃ nn, nn = mid + m := ⟨_, rfl⟩
  obtain ⟨p, hp⟩ : ∃ p, nn = p + 1 := ⟨nn - 1, by omega⟩
  obtain ⟨lo, hi, hlo⟩ : ∃ lo hi, mid < m ∧ nn = b + lo ∧ hi = mid ∨ ¬ mid < m ∧ lo = a ∧ hi = m := by
   by_cases c : mid < m
   ·exact ⟨nn - b, mid, .inl ⟨c, by omega, rfl⟩⟩
   ·exact ⟨a, m, .inr ⟨c, rfl, rfl⟩⟩
  obtain ⟨y, f1, start, f2, f3, f4, f5, f6, f7, f8, f9, f10, f11, f12, f13, f14, f15, f16⟩ := q5r g cl n (P ++ (X ++ (Y ++ Q))) hn hb hkeys a m b mid nn p lo hi hp (by omega) (fun c h1 h2 => by omega) (by omega) (by omega)
  obtain ⟨fin, hfin⟩ : ∃ fin, nn = start + fin := ⟨nn - start, by omega⟩
  obtain ⟨X1, X2, rfl, hX1⟩ : ∃ X1 X2, X = X1 ++ X2 ∧ X1.length = start - a := ⟨X.take (start - a), X.drop (start - a), (List.take_append_drop _ _).symm, by simp; omega⟩
  obtain ⟨Y1, Y2, rfl, hY1⟩ : ∃ Y1 Y2, Y = Y1 ++ Y2 ∧ Y1.length = fin - m := ⟨Y.take (fin - m), Y.drop (fin - m), (List.take_append_drop _ _).symm, by simp; omega⟩
  simp only [zgp] at hk hX0 hY0 hx hy hm hbb hlen
  obtain ⟨x1, x2, x3⟩ := List.pairwise_append.1 hX
  obtain ⟨y1, y2, y3⟩ := List.pairwise_append.1 hY
  have hst : start = a + X1.length := by omega
  have hfi : fin = m + Y1.length := by omega
  have N : Nums n X1.length X2.length Y1.length Y2.length a m b mid nn lo hi p start fin := ⟨by omega, by omega, hb, hmid, hnn, hp, hfin, hm, hbb, by omega, hst, hfi⟩
  simp only [List.append_assoc] at f1 f4 f15 f16 hn hkeys ⊢
  have hk2 : qct (P ++ (X1 ++ (Y1 ++ (X2 ++ (Y2 ++ Q))))) := by
   intro z hz; refine hkeys z ?_
   simp only [List.mem_append] at hz ⊢
   rcases hz with h | h | h | h | h | h
   ·exact .inl h
   ·exact .inr (.inl h)
   ·exact .inr (.inr (.inr (.inl h)))
   ·exact .inr (.inr (.inl h))
   ·exact .inr (.inr (.inr (.inr (.inl h))))
   ·exact .inr (.inr (.inr (.inr (.inr h))))
  obtain ⟨Z1, p1, q1, s2, n2⟩ : ∃ Z1 : List Evt, Z1.Perm (X1 ++ Y1) ∧ Z1.Pairwise leE ∧ (a < start → start < mid → qbh g cl n a start mid (P ++ (X1 ++ (Y1 ++ (X2 ++ (Y2 ++ Q))))) (P ++ (Z1 ++ (X2 ++ (Y2 ++ Q))))) ∧ (¬ (a < start ∧ start < mid) → P ++ (Z1 ++ (X2 ++ (Y2 ++ Q))) = P ++ (X1 ++ (Y1 ++ (X2 ++ (Y2 ++ Q))))) := by
   by_cases c : a < start ∧ start < mid
   ·obtain ⟨Z, p1, q1, r1⟩ := ih P X1 Y1 (X2 ++ (Y2 ++ Q)) (by omega) (by omega) (by omega) x1 y1 (by rw [hlen]; simp; omega) hk2 a start mid ha hst (by omega)
    exact ⟨Z, p1, q1, fun _ _ => r1, fun h => absurd c h⟩
   ·refine ⟨X1 ++ Y1, .refl _, ?_, fun h1 h2 => absurd ⟨h1, h2⟩ c, fun _ => by simp⟩
    by_cases c1 : a < start
    ·rw [show Y1 = [] from List.eq_nil_of_length_eq_zero (by omega), List.append_nil]; exact x1
    ·rw [show X1 = [] from List.eq_nil_of_length_eq_zero (by omega), List.nil_append]; exact y1
  have lz := p1.length_eq
  rw [List.length_append] at lz
  have hk3 : qct (P ++ Z1 ++ (X2 ++ (Y2 ++ Q))) := by
   intro z hz; refine hk2 z ?_
   have := p1.mem_iff (a := z)
   simp only [List.mem_append] at hz this ⊢
   rcases hz with (h | h) | h
   ·exact .inl h
   ·rcases this.1 h with h | h
    ·exact .inr (.inl h)
    ·exact .inr (.inr (.inl h))
   ·exact .inr (.inr (.inr h))
  obtain ⟨Z2, p2, q2, s3, n3⟩ : ∃ Z2 : List Evt, Z2.Perm (X2 ++ Y2) ∧ Z2.Pairwise leE ∧ (mid < fin → fin < b → qbh g cl n mid fin b (P ++ (Z1 ++ (X2 ++ (Y2 ++ Q)))) (P ++ (Z1 ++ (Z2 ++ Q)))) ∧ (¬ (mid < fin ∧ fin < b) → P ++ (Z1 ++ (Z2 ++ Q)) = P ++ (Z1 ++ (X2 ++ (Y2 ++ Q)))) := by
   by_cases c : mid < fin ∧ fin < b
   ·obtain ⟨Z, p2, q2, r2⟩ := ih (P ++ Z1) X2 Y2 Q (by omega) (by omega) (by omega) x2 y2 (by rw [hlen]; simp; omega) hk3 mid fin b (by simp; omega) (by omega) (by omega)
    simp only [List.append_assoc] at r2
    exact ⟨Z, p2, q2, fun _ _ => r2, fun h => absurd c h⟩
   ·refine ⟨X2 ++ Y2, .refl _, ?_, fun h1 h2 => absurd ⟨h1, h2⟩ c, fun _ => by simp⟩
    by_cases c1 : mid < fin
    ·rw [show Y2 = [] from List.eq_nil_of_length_eq_zero (by omega), List.append_nil]; exact x2
    ·rw [show X2 = [] from List.eq_nil_of_length_eq_zero (by omega), List.nil_append]; exact y2
  have ms := q52 qkt hX hY (Z1 := Z1) (Z2 := Z2) ?_ ?_ p1 p2 q1 q2
  ·refine ⟨Z1 ++ Z2, by simpa using ms.1, ms.2, ?_⟩
   simp only [List.append_assoc]
   refine qaaw g cl n X1.length X2.length Y1.length Y2.length a m b mid nn lo hi p start fin _ _ _ _ N hlo ⟨y, f1, f2, f3, f4, f5, f6, f7, f8, f9, f10, f11, f12⟩ ?_ ?_ s2 n2 s3 n3
   ·intro c1 c2
    have r := q96 g cl n (P ++ X1) X2 Y1 (Y2 ++ Q) (by omega) (by omega) (by rw [hlen]; simp; omega) hb start m fin (by simp; omega) (by omega) (by omega)
    simpa only [List.append_assoc] using r
   ·intro c
    by_cases c1 : start < m
    ·rw [show Y1 = [] from List.eq_nil_of_length_eq_zero (by omega)]; simp
    ·rw [show X2 = [] from List.eq_nil_of_length_eq_zero (by omega)]; simp
  ·intro u v hu hv
   have hlt : X1.length - 1 < X1.length := (List.getElem?_eq_some_iff.1 hu).1
   have hlt2 : 0 < Y2.length := (List.getElem?_eq_some_iff.1 hv).1
   rcases f15 with h | h
   ·omega
   ·refine h u v ?_ ?_
    ·rw [← hu]; exact qvx (L := P) (X := X1) (M := X2 ++ (Y1 ++ (Y2 ++ Q))) rfl hlt (by omega)
    ·rw [← hv]; exact qvx (L := P ++ (X1 ++ (X2 ++ Y1))) (X := Y2) (M := Q) (by simp) hlt2 (by simp; omega)
  ·intro u v hu hv
   have hlt : Y1.length - 1 < Y1.length := (List.getElem?_eq_some_iff.1 hu).1
   have hlt2 : 0 < X2.length := (List.getElem?_eq_some_iff.1 hv).1
   rcases f16 with h | h
   ·omega
   ·refine h u v ?_ ?_
    ·rw [← hu]; exact qvx (L := P ++ (X1 ++ X2)) (X := Y1) (M := Y2 ++ Q) (by simp) hlt (by simp; omega)
    ·rw [← hv]; exact qvx (L := P ++ X1) (X := X2) (M := Y1 ++ (Y2 ++ Q)) (by simp) hlt2 (by simp; omega)
end
set_option maxRecDepth 10000
theorem q56 {a : Nat} (h : a < 2 ^ 61) : IntKind.i64.wrap (2 * (a : Int)) = ((2 * a : Nat) : Int) := by rw [qax (by omega) (by omega)]; omega
theorem qaad {a : Nat} (h : a < 2 ^ 61) : IntKind.i64.wrap ((a : Int) * 2) = ((2 * a : Nat) : Int) := by rw [qax (by omega) (by omega)]; omega
section
variable (g : Nat) (cl : Bool) (n : Nat)
theorem q9c (l : List Evt) (hn : n = l.length) (hb : n < 2 ^ 58) (hk : qct l) :
  ∃ y, itB (exec (evL T) itL none qcp) (qs [0, 1, 2, 6, 7, 8] true 1) ⟨[(0, .sl 0 g 0 n cl), (1, (ii n)), (2, (.fn (.func qq) [] [])), (6, (ii 20)), (7, (ii 0)), (8, (ii 20))], []⟩ [.row 6 ((l).map Evt.r) g] = some y ∧
   ∃ a : Nat, y.1 = .exit 0 ∧ y.2.1.marks = [] ∧ Ev.look y.2.1.vars 0 = some (.sl 0 g 0 n cl) ∧ Ev.look y.2.1.vars 1 = some (ii n) ∧ Ev.look y.2.1.vars 2 = some (.fn (.func qq) [] []) ∧ Ev.look y.2.1.vars 6 = some (ii 20) ∧ Ev.look y.2.1.vars 7 = some (ii a) ∧
    ∃ Dn Rs : List Evt, y.2.2 = [.row 6 ((Dn ++ Rs).map Evt.r) g] ∧ a = Dn.length ∧ (Dn ++ Rs).Perm l ∧ Rs.length < 20 ∧ ∀ t, Blk leE 20 t → Blk leE 20 (Dn ++ t) := by
 have key := qg7 (f := exec (evL T) itL none qcp) (s := qs [0, 1, 2, 6, 7, 8] true 1) (τ := List Evt × Nat)
  (fun s => ⟨[(0, .sl 0 g 0 n cl), (1, (ii n)), (2, (.fn (.func qq) [] [])), (6, (ii 20)), (7, (ii s.2)), (8, (ii ((s.2 + 20 : Nat))))], []⟩) (fun s => [.row 6 ((s.1).map Evt.r) g]) (fun s => n + 20 - s.2)
  (fun s => ∃ Dn Rs, s.1 = Dn ++ Rs ∧ s.2 = Dn.length ∧ (Dn ++ Rs).Perm l ∧ ∀ t, Blk leE 20 t → Blk leE 20 (Dn ++ t))
  (fun y => ∃ a : Nat, y.1 = .exit 0 ∧ y.2.1.marks = [] ∧ Ev.look y.2.1.vars 0 = some (.sl 0 g 0 n cl) ∧ Ev.look y.2.1.vars 1 = some (ii n) ∧ Ev.look y.2.1.vars 2 = some (.fn (.func qq) [] []) ∧ Ev.look y.2.1.vars 6 = some (ii 20) ∧ Ev.look y.2.1.vars 7 = some (ii a) ∧
    ∃ Dn Rs : List Evt, y.2.2 = [.row 6 ((Dn ++ Rs).map Evt.r) g] ∧ a = Dn.length ∧ (Dn ++ Rs).Perm l ∧ Rs.length < 20 ∧ ∀ t, Blk leE 20 t → Blk leE 20 (Dn ++ t)) ?_ (l, 0) ⟨[], l, rfl, rfl, .refl _, fun t h => h⟩
 ·exact key
 rintro ⟨D, a⟩ ⟨Dn, Rs, hD, ha, hp, hB⟩
 simp only at hD ha ⊢
 have hl := hp.length_eq
 rw [List.length_append] at hl
 by_cases c : a + 20 ≤ n
 case neg =>
  have h1 : ¬ ((a + 20 : Nat) : Int) ≤ (n : Int) := by omega
  right
  simp only [qcp, h1, Ev.exec, qb, qe, qc, qai, Ev.Opnd.ev, Ev.Env.get, Ev.Env.set, Ev.look, qml, ↓qr, Ev.it1, ↓reduceIte, Nat.reduceEqDiff, reduceCtorEq, zgw, zfa, zgy]
  exact ⟨_, rfl, a, rfl, rfl, rfl, rfl, rfl, rfl, rfl, Dn, Rs, by rw [hD], ha, hp, by omega, hB⟩
 have h1 : ((a + 20 : Nat) : Int) ≤ (n : Int) := by omega
 obtain ⟨S, Q, rfl, hS⟩ : ∃ S Q, Rs = S ++ Q ∧ S.length = 20 := ⟨Rs.take 20, Rs.drop 20, (List.take_append_drop _ _).symm, by simp; omega⟩
 rw [List.length_append] at hl
 have hkD : qct (Dn ++ (S ++ Q)) := hk.perm hp
 obtain ⟨S', p1, q1, r1⟩ := qv2 g cl n Dn S Q (by simp; omega) (by omega) hkD a (a + 20) ha (by omega)
 have w1 : IntKind.i64.wrap (((a + 20 : Nat) : Int) + 20) = ((a + 20 + 20 : Nat) : Int) := by rw [qax (by omega) (by omega)]; omega
 rw [← hD] at r1
 left
 refine ⟨(Dn ++ (S' ++ Q), a + 20), ?_, ⟨Dn ++ S', Q, by simp, ?_, ?_, ?_⟩, by simp only; omega⟩
 ·simp only [qcp, h1, w1, r1, qv, Ev.exec, qb, qe, qc, qd3, qai, Ev.evs, Ev.Opnd.ev, Ev.Env.get, Ev.Env.set, Ev.look, qaf, qml, qs, Ev.keep, qae, qx, qd, Ev.SObj.lo, qa4, qbm, qe1, qj, ↓qr, Ev.it1, ↓reduceIte, zgc, zfe, Nat.reduceEqDiff, reduceCtorEq, zgv, zfc, zgx, zgu, zgy]
 ·have := p1.length_eq; simp; omega
 ·rw [List.append_assoc]; exact (List.Perm.append_left Dn (p1.append_right Q)).trans hp
 ·intro t ht
  rw [List.append_assoc]
  exact hB _ (.more (by rw [p1.length_eq]; exact hS) q1 ht)
theorem q98 (l D0 : List Evt) (hn : n = l.length) (hb : n < 2 ^ 58) (hk : qct l) (s : Nat) (hs : 0 < s) (hsn : s < n) (hp0 : D0.Perm l) (hB0 : Blk leE s D0) :
  ∃ y, itB (exec (evL T) itL none qcm) (qs [0, 1, 2, 6, 7, 8] true 1) ⟨[(0, .sl 0 g 0 n cl), (1, (ii n)), (2, (.fn (.func qq) [] [])), (6, (ii s)), (7, (ii 0)), (8, (ii ((2 * s : Nat))))], []⟩ [.row 6 ((D0).map Evt.r) g] = some y ∧
   ∃ a : Nat, y.1 = .exit 4 ∧ y.2.1.marks = [] ∧ Ev.look y.2.1.vars 0 = some (.sl 0 g 0 n cl) ∧ Ev.look y.2.1.vars 1 = some (ii n) ∧ Ev.look y.2.1.vars 2 = some (.fn (.func qq) [] []) ∧ Ev.look y.2.1.vars 6 = some (ii s) ∧ Ev.look y.2.1.vars 7 = some (ii a) ∧
    ∃ Dn Rs : List Evt, y.2.2 = [.row 6 ((Dn ++ Rs).map Evt.r) g] ∧ a = Dn.length ∧ (Dn ++ Rs).Perm l ∧ Rs.length < 2 * s ∧ Blk leE s Rs ∧ ∀ t, Blk leE (2 * s) t → Blk leE (2 * s) (Dn ++ t) := by
 have key := qg7 (f := exec (evL T) itL none qcm) (s := qs [0, 1, 2, 6, 7, 8] true 1) (τ := List Evt × Nat)
  (fun z => ⟨[(0, .sl 0 g 0 n cl), (1, (ii n)), (2, (.fn (.func qq) [] [])), (6, (ii s)), (7, (ii z.2)), (8, (ii ((z.2 + 2 * s : Nat))))], []⟩) (fun z => [.row 6 ((z.1).map Evt.r) g]) (fun z => n + 2 * s - z.2)
  (fun z => ∃ Dn Rs, z.1 = Dn ++ Rs ∧ z.2 = Dn.length ∧ (Dn ++ Rs).Perm l ∧ Blk leE s Rs ∧ ∀ t, Blk leE (2 * s) t → Blk leE (2 * s) (Dn ++ t))
  (fun y => ∃ a : Nat, y.1 = .exit 4 ∧ y.2.1.marks = [] ∧ Ev.look y.2.1.vars 0 = some (.sl 0 g 0 n cl) ∧ Ev.look y.2.1.vars 1 = some (ii n) ∧ Ev.look y.2.1.vars 2 = some (.fn (.func qq) [] []) ∧ Ev.look y.2.1.vars 6 = some (ii s) ∧ Ev.look y.2.1.vars 7 = some (ii a) ∧
    ∃ Dn Rs : List Evt, y.2.2 = [.row 6 ((Dn ++ Rs).map Evt.r) g] ∧ a = Dn.length ∧ (Dn ++ Rs).Perm l ∧ Rs.length < 2 * s ∧ Blk leE s Rs ∧ ∀ t, Blk leE (2 * s) t → Blk leE (2 * s) (Dn ++ t)) ?_ (D0, 0) ⟨[], D0, rfl, rfl, hp0, hB0, fun t h => h⟩
 ·simp only [zfd] at key; exact key
 rintro ⟨D, a⟩ ⟨Dn, Rs, hD, ha, hp, hR, hB⟩
 simp only at hD ha ⊢
 have hl := hp.length_eq
 rw [List.length_append] at hl
 by_cases c : a + 2 * s ≤ n
 case neg =>
  have h1 : ¬ ((a + 2 * s : Nat) : Int) ≤ (n : Int) := by omega
  right
  simp only [qcm, h1, Ev.exec, qb, qe, qc, qai, Ev.Opnd.ev, Ev.Env.get, Ev.Env.set, Ev.look, qml, ↓qr, Ev.it1, ↓reduceIte, Nat.reduceEqDiff, reduceCtorEq, zgw, zfa, zgy]
  exact ⟨_, rfl, a, rfl, rfl, rfl, rfl, rfl, rfl, rfl, Dn, Rs, by rw [hD], ha, hp, by omega, hR, hB⟩
 have h1 : ((a + 2 * s : Nat) : Int) ≤ (n : Int) := by omega
 obtain ⟨X, Y, Q, rfl, hX, hY, qX, qY, hQ⟩ : ∃ X Y Q, Rs = X ++ (Y ++ Q) ∧ X.length = s ∧ Y.length = s ∧ X.Pairwise leE ∧ Y.Pairwise leE ∧ Blk leE s Q := by
  obtain ⟨X, R1, rfl, h2, h3, h4⟩ := hR.split (by omega)
  rw [List.length_append] at hl
  by_cases c2 : R1.length ≤ s
  ·exact ⟨X, R1, [], by simp, h2, by omega, h3, h4.sorted c2, .nil⟩
  ·obtain ⟨Y, Q, rfl, h5, h6, h7⟩ := h4.split (by omega)
   exact ⟨X, Y, Q, rfl, h2, h5, h3, h6, h7⟩
 rw [List.length_append, List.length_append] at hl
 have hkD : qct (Dn ++ (X ++ (Y ++ Q))) := hk.perm hp
 obtain ⟨Z, p1, q1, r1⟩ := qzi g cl n (by omega) _ Dn X Y Q (Nat.le_refl _) (by omega) (by omega) qX qY (by simp; omega) hkD a (a + s) (a + 2 * s) ha (by omega) (by omega)
 have w1 : IntKind.i64.wrap ((a : Int) + (s : Int)) = ((a + s : Nat) : Int) := qla (by omega)
 have w2 : IntKind.i64.wrap (2 * (s : Int)) = ((2 * s : Nat) : Int) := q56 (by omega)
 have w3 : IntKind.i64.wrap (((a + 2 * s : Nat) : Int) + ((2 * s : Nat) : Int)) = ((a + 2 * s + 2 * s : Nat) : Int) := qla (by omega)
 unfold qbh at r1
 rw [← hD] at r1
 have hz := p1.length_eq
 rw [List.length_append] at hz
 left
 refine ⟨(Dn ++ (Z ++ Q), a + 2 * s), ?_, ⟨Dn ++ Z, Q, by simp, ?_, ?_, hQ, ?_⟩, by simp only; omega⟩
 ·simp only [qcm, h1, w1, w2, w3, r1, qv, Ev.exec, qb, qe, qc, qd3, qai, Ev.evs, Ev.Opnd.ev, Ev.Env.get, Ev.Env.set, Ev.look, qaf, q5k, qml, qs, Ev.keep, qae, qx, qd, Ev.SObj.lo, qa4, qbm, qe1, qj, ↓qr, Ev.it1, ↓reduceIte, zgc, zfe, Nat.reduceEqDiff, reduceCtorEq, zgv, zfc, zgx, zgu, zgy]
 ·simp; omega
 ·rw [List.append_assoc]
  refine (List.Perm.append_left Dn (p1.append_right Q)).trans ?_
  rw [List.append_assoc]; exact hp
 ·intro t ht
  rw [List.append_assoc]
  exact hB _ (.more (by omega) q1 ht)
theorem qaar (l D0 : List Evt) (hn : n = l.length) (hb : n < 2 ^ 58) (hk : qct l) (hp0 : D0.Perm l) (hB0 : Blk leE 20 D0) :
  ∃ y, itB (exec (evL T) itL none qb1) (qs [0, 1, 2, 6] true 1) ⟨[(0, .sl 0 g 0 n cl), (1, (ii n)), (2, (.fn (.func qq) [] [])), (6, (ii 20))], []⟩ [.row 6 ((D0).map Evt.r) g] = some y ∧
   (y.1 = .exit 2 ∧ y.2.1.marks = [] ∧ ∃ l' : List Evt, y.2.2 = [.row 6 ((l').map Evt.r) g] ∧ l'.Perm l ∧ l'.Pairwise leE) := by
 have key := qg7 (f := exec (evL T) itL none qb1) (s := qs [0, 1, 2, 6] true 1) (τ := List Evt × Nat)
  (fun z => ⟨[(0, .sl 0 g 0 n cl), (1, (ii n)), (2, (.fn (.func qq) [] [])), (6, (ii z.2))], []⟩) (fun z => [.row 6 ((z.1).map Evt.r) g]) (fun z => n - z.2)
  (fun z => z.1.Perm l ∧ 0 < z.2 ∧ Blk leE z.2 z.1)
  (fun y => y.1 = .exit 2 ∧ y.2.1.marks = [] ∧ ∃ l' : List Evt, y.2.2 = [.row 6 ((l').map Evt.r) g] ∧ l'.Perm l ∧ l'.Pairwise leE) ?_ (D0, 20) ⟨hp0, by simp, hB0⟩
 ·exact key
 rintro ⟨D, s⟩ ⟨hp, hs, hB⟩
 simp only at hp hs hB ⊢
 have hl := hp.length_eq
 by_cases c : s < n
 case neg =>
  have h1 : ¬ (s : Int) < (n : Int) := by omega
  right
  simp only [qb1, h1, Ev.exec, qb, qe, qc, qai, Ev.Opnd.ev, Ev.Env.get, Ev.Env.set, Ev.look, ql, ↓qr, Ev.it1, ↓reduceIte, Nat.reduceEqDiff, reduceCtorEq, zgw, zfa, zgy]
  exact ⟨_, rfl, rfl, rfl, D, rfl, hp, hB.sorted (by omega)⟩
 have h1 : (s : Int) < (n : Int) := by omega
 obtain ⟨⟨y, e, σ⟩, k1, a, k2, k3, k4, k5, k6, k7, k8, Dn, Rs, k9, k10, k11, k12, k13, k14⟩ := q98 g cl n l D hn hb hk s hs c hp hB
 simp only at k1 k2 k3 k4 k5 k6 k7 k8 k9
 subst k2; subst k9
 have hl2 := k11.length_eq
 rw [List.length_append] at hl2
 have w1 : IntKind.i64.wrap ((a : Int) + (s : Int)) = ((a + s : Nat) : Int) := qla (by omega)
 have w2 : IntKind.i64.wrap (2 * (s : Int)) = ((2 * s : Nat) : Int) := q56 (by omega)
 have w3 : IntKind.i64.wrap ((s : Int) * 2) = ((2 * s : Nat) : Int) := qaad (by omega)
 left
 by_cases c2 : a + s < n
 ·have h2 : ((a + s : Nat) : Int) < (n : Int) := by omega
  obtain ⟨X, Y, rfl, hX, qX, hY⟩ := k13.split (by omega)
  rw [List.length_append] at hl2 k12
  have hkD : qct (Dn ++ (X ++ (Y ++ []))) := by rw [List.append_nil]; exact hk.perm k11
  obtain ⟨Z, p1, q1, r1⟩ := qzi g cl n (by omega) _ Dn X Y [] (Nat.le_refl _) (by omega) (by omega) qX (hY.sorted (by omega)) (by simp; omega) hkD a (a + s) n k10 (by omega) (by omega)
  unfold qbh at r1
  simp only [zgn] at r1
  have hz := p1.length_eq
  rw [List.length_append] at hz
  refine ⟨(Dn ++ Z, 2 * s), ?_, ⟨(List.Perm.append_left Dn p1).trans k11, by simp only; omega, k14 _ (.last (by omega) q1)⟩, by simp only; omega⟩
  simp only [qb1, h1, h2, w1, w2, w3, k1, k3, k4, k5, k6, k7, k8, r1, qv, Ev.exec, qb, qe, qc, qd3, qai, Ev.evs, Ev.Opnd.ev, Ev.Env.get, Ev.Env.set, Ev.look, qaf, q5k, ql, qs, Ev.keep, qae, qx, qd, Ev.SObj.lo, qa4, qbm, qe1, qj, ↓qr, ↓qar, Ev.it1, ↓reduceIte, zga, zgb, zgc, zfe, Nat.reduceEqDiff, reduceCtorEq, zgv, zfc, zgx, zfd, zgu, zgy]
 ·have h2 : ¬ ((a + s : Nat) : Int) < (n : Int) := by omega
  refine ⟨(Dn ++ Rs, 2 * s), ?_, ⟨k11, by simp only; omega, k14 _ (.last (by omega) (k13.sorted (by omega)))⟩, by simp only; omega⟩
  simp only [qb1, h1, h2, w1, w2, w3, k1, k3, k4, k5, k6, k7, k8, qv, Ev.exec, qb, qe, qc, qai, Ev.Opnd.ev, Ev.Env.get, Ev.Env.set, Ev.look, qaf, q5k, ql, qs, Ev.keep, qae, qx, qd, Ev.SObj.lo, qa4, qbm, qe1, qj, ↓qr, ↓qar, Ev.it1, ↓reduceIte, zga, zgb, zgc, zfe, Nat.reduceEqDiff, reduceCtorEq, zgv, zgw, zfc, zfa, zgx, zfd, zgu, zgy]
theorem q91 (l : List Evt) (hn : n = l.length) (hb : n < 2 ^ 58) (hk : qct l) :
  ∃ l' : List Evt, l'.Perm l ∧ l'.Pairwise leE ∧ (evL T).call qbr [.sl 0 g 0 n cl, (ii n), (.fn (.func qq) [] [])] [.row 6 ((l).map Evt.r) g] = some (.tup [], [.row 6 ((l').map Evt.r) g]) := by
 obtain ⟨⟨y, e, σ⟩, k1, a, k2, k3, k4, k5, k6, k7, k8, Dn, Rs, k9, k10, k11, k12, k13⟩ := q9c g cl n l hn hb hk
 simp only at k1 k2 k3 k4 k5 k6 k7 k8 k9
 subst k2; subst k9
 have hl := k11.length_eq
 rw [List.length_append] at hl
 obtain ⟨R', p1, q1, r1⟩ := qv2 g cl n Dn Rs [] (by simp; omega) (by omega) (by rw [List.append_nil]; exact hk.perm k11) a n k10 (by omega)
 simp only [zgn] at r1
 obtain ⟨⟨y', e', σ'⟩, l1, l2, l3, l', l4, l5, l6⟩ := qaar g cl n l (Dn ++ R') hn hb hk ((List.Perm.append_left Dn p1).trans k11) (k13 _ (.last (by rw [p1.length_eq]; omega) q1))
 simp only at l1 l2 l3 l4
 subst l2; subst l4
 refine ⟨l', l5, l6, ?_⟩
 rw [qy qkf qkc]
 simp only [qds, k1, k3, k4, k5, k6, k7, k8, r1, l1, l3, qv, qn, Ev.exec, qb, qe, qc, qd3, qai, Ev.evs, Ev.Opnd.ev, Ev.Env.get, Ev.Env.set, Ev.look, qo, qm, qak, Ev.kill, qah, qs, Ev.keep, qae, qx, qd, Ev.SObj.lo, qa4, qa8, qbm, qe1, qj, ↓qr, ↓qar, ↓reduceIte, zga, zgb, zgc, zfe, Nat.reduceAdd, Nat.reduceEqDiff, reduceCtorEq, zgv, zfc, zgx, zfd, zgu, zgy]
theorem q28 (l : List Evt) (hn : n = l.length) (hb : n < 2 ^ 58) (hk : qct l) :
  ∃ l' : List Evt, l'.Perm l ∧ l'.Pairwise leE ∧ (evL T).call qaw [.sl 0 g 0 n cl, (.fn (.func qq) [] [])] [.row 6 ((l).map Evt.r) g] = some (.tup [], [.row 6 ((l').map Evt.r) g]) := by
 obtain ⟨l', h1, h2, h3⟩ := q91 g cl n l hn hb hk
 refine ⟨l', h1, h2, ?_⟩
 rw [qy qgx qgm]
 simp only [qb7, h3, qv, qn, Ev.exec, qb, qe, qc, qd3, qai, Ev.evs, Ev.Opnd.ev, Ev.Env.get, Ev.Env.set, Ev.look, qo, qm, qak, Ev.kill, qah, qd, Ev.SObj.lo, qa8, qj, ↓qr, ↓reduceIte, zga, zgb, zgc, zfe, Nat.reduceAdd, Nat.reduceEqDiff, reduceCtorEq, zfc, zgx, zfd, zgy]
end
set_option maxRecDepth 10000
def sortL (l : List Evt) : List Evt := l.mergeSort (fun a b => decide (qpi a b ≤ 0))
def qsh (l : List Evt) : Prop := l.Pairwise (fun a b => ¬ qpi a b = 0)
theorem qdw (l : List Evt) : (sortL l).Perm l := List.mergeSort_perm _ _
theorem qfn (l : List Evt) : (sortL l).Pairwise leE := by
 have := List.pairwise_mergeSort (le := fun a b => decide (qpi a b ≤ 0)) (fun a b c h1 h2 => by simp only [decide_eq_true_eq] at h1 h2 ⊢; exact qkt a b c h1 h2) (fun a b => by
  have := qoj a b
  by_cases h : qpi a b ≤ 0
  ·simp [h]
  ·have : qpi b a ≤ 0 := by omega
   simp [this]) l
 exact this.imp (fun h => of_decide_eq_true h)
theorem qsh.eq {l : List Evt} (h : qsh l) {a b : Evt} (ha : a ∈ l) (hb : b ∈ l) (hc : qpi a b = 0) : a = b := by
 obtain ⟨i, hi⟩ := List.mem_iff_getElem?.1 ha
 obtain ⟨j, hj⟩ := List.mem_iff_getElem?.1 hb
 obtain ⟨hi', rfl⟩ := List.getElem?_eq_some_iff.1 hi
 obtain ⟨hj', rfl⟩ := List.getElem?_eq_some_iff.1 hj
 rw [qsh, List.pairwise_iff_getElem] at h
 rcases Nat.lt_trichotomy i j with c | c | c
 ·exact absurd hc (h i j hi' hj' c)
 ·subst c; rfl
 ·exact absurd (by rw [qoj]; omega) (h j i hj' hi' c)
theorem qlc {l l' : List Evt} (hd : qsh l) (hp : l'.Perm l) (hs : l'.Pairwise leE) : l' = sortL l := by
 refine List.Perm.eq_of_pairwise (le := leE) (fun a b ha hb h1 h2 => ?_) hs (qfn l) (hp.trans (qdw l).symm)
 refine hd.eq (hp.mem_iff.1 ha) ((qdw l).mem_iff.1 hb) ?_
 have := qoj a b
 unfold leE at h1 h2; omega
theorem qsh.perm {l l' : List Evt} (h : qsh l) (p : l'.Perm l) : qsh l' := (p.pairwise_iff (fun {x y} hxy hyx => hxy (by rw [qoj]; omega))).2 h
theorem qp5 (l : List Evt) (c : Bool) (h : l.length ≤ 1000000) : (evL T).call qbf [(.fsl ((l).map Evt.r) c)] [] = some (.sl 0 0 0 l.length false, [.row 6 (l.map Evt.r) 0]) := by
 have h' : l.length * 64 ≤ 140737488355328 := by omega
 rw [q2z qiw]
 simp only [qqx, qv, qfr, h', qu, qj, qh, zgi, ↓reduceIte, Nat.reduceLT, Nat.reducePow, zfc, zgx, zgy]
theorem qsx (l : List Evt) (c : Bool) (h : l.length ≤ 1000000) (hk : qct l) : ∃ l' : List Evt, l'.Perm l ∧ l'.Pairwise leE ∧ qbb (evL T) qef [(.fsl ((l).map Evt.r) c)] = some (.fsl ((l').map Evt.r) false) := by
 have hcl := qp5 l c h
 obtain ⟨l', h1, h2, h3⟩ := q28 0 false l.length l rfl (by omega) hk
 refine ⟨l', h1, h2, ?_⟩
 have hlen := h1.length_eq
 rw [qbb, qy qr9 qrm]
 rw [← hlen] at hcl h3
 simp only [qjq, hcl, h3, qv, qn, Ev.exec, qb, qe, qc, qpk, qd3, q1m, Ev.AV.shift, qai, Ev.evs, Ev.Opnd.ev, Ev.Env.get, Ev.Env.set, Ev.look, qo, qm, qab, qak, Ev.kill, qah, qd, qu, qbm, qj, qh, qgk, qfa, qf9, qej, qfs, q38, zgi, ↓qr, ↓reduceIte, zga, zgb, zgd, zgo, zgg, zgl, Nat.reduceEqDiff, Nat.reduceLT, reduceCtorEq, zgw, zfc, zfa, zgx, and_true, zfd, Nat.add_zero, Nat.le_refl, zgy]
theorem qr4 (l : List Evt) (c : Bool) (h : l.length ≤ 1000000) (hk : qct l) (hd : qsh l) : qbb (evL T) qef [(.fsl ((l).map Evt.r) c)] = some (.fsl ((sortL l).map Evt.r) false) := by
 obtain ⟨l', h1, h2, h3⟩ := qsx l c h hk
 rw [← qlc hd h1 h2]; exact h3
theorem qlv (x y : Evt) (hx : x.key.length ≤ 9223372036854775807) (hy : y.key.length ≤ 9223372036854775807) : qbb (evL T) qdn [(.agg [(ii x.time), (.fsl ((x.key).map qca) false), (ii x.lp), (ii x.kind), (ii x.proc), (ii x.arg)]), (.agg [(ii y.time), (.fsl ((y.key).map qca) false), (ii y.lp), (ii y.kind), (ii y.proc), (ii y.arg)])] = some (ii (qpi x y)) := by
 obtain ⟨xt, xk, xl, xi, xp, xa⟩ := x
 obtain ⟨yt, yk, yl, yi, yp, ya⟩ := y
 have hc := qmh xt yt
 have hk := qsl xk yk false false hx hy
 have hz := (qjl xt yt).2.1
 rw [qbb, qy qqf qpd]
 by_cases h : xt = yt
 ·subst h
  have h0 : qo8 xt xt = 0 := hz.2 rfl
  simp only [qf0, qpi, h0, hk, qag, qn, Ev.exec, qb, qe, qc, qa2, qai, Ev.evs, Ev.Opnd.ev, Ev.Env.get, Ev.Env.set, Ev.look, qo, qk, qad, Ev.AV.cells, qw, Ev.AV.plain, qb6, qm, qab, qak, Ev.kill, qah, qd, qa4, qu, qj, qh, qap, ↓qr, ↓reduceIte, zga, zgb, zfe, zgf, zgg, zgh, Nat.reduceAdd, Nat.reduceEqDiff, reduceCtorEq, zgw, zfc, zfa, zgx, ne_eq, zfb, not_true_eq_false, zff, zfd, zgy]
 ·have h0 : ¬ qo8 xt yt = 0 := fun e => h (hz.1 e)
  simp only [qf0, qpi, h0, h, hc, qn, Ev.exec, qb, qe, qc, qa2, qai, Ev.evs, Ev.Opnd.ev, Ev.Env.get, Ev.Env.set, Ev.look, qo, qk, qad, Ev.AV.cells, qw, Ev.AV.plain, qb6, qm, qab, qak, Ev.kill, qah, qd, qa4, qj, qh, qap, ↓qr, ↓reduceIte, zga, zgb, zfe, zgg, zgh, Nat.reduceAdd, Nat.reduceEqDiff, reduceCtorEq, zgv, zfc, zfa, zgx, ne_eq, zfb, zff, zfd, zgy]
set_option maxRecDepth 10000
section
variable (l : List Evt) (c : Bool)
end
set_option maxRecDepth 10000
def q7t : Evt := ⟨0, [], 0, 0, 0, 0⟩
def qul (l : List Evt) (b : Int) : List Evt × Evt × Bool := match l with
 | [] => ([], q7t, false)
 | x :: r => if x.time < b then (r, x, true) else (x :: r, q7t, false)
theorem qx1 (l : List Evt) (c : Bool) (b : Int) (hl : l.length ≤ 1000000) : ∃ c' : Bool, qbb (evL T) qhy [(.fsl ((l).map Evt.r) c), (ii b)] = some (.tup [(.fsl (((qul l b).1).map Evt.r) c'), (.agg [(ii ((qul l b).2.1.time)), (.fsl (((qul l b).2.1.key).map qca) false), (ii ((qul l b).2.1.lp)), (ii ((qul l b).2.1.kind)), (ii ((qul l b).2.1.proc)), (ii ((qul l b).2.1.arg))]), (bb ((qul l b).2.2))]) := by
 rw [qbb, qy qww qvi]
 cases l with
 | nil =>
  refine ⟨c, ?_⟩
  simp only [qjj, qul, q7t, List.map_nil, Int.lt_irrefl, qn, Ev.exec, qb, qe, qc, qai, Ev.Opnd.ev, Ev.Env.get, Ev.Env.set, Ev.Env.unset, Ev.look, qo, qk, qad, qgy, Ev.AV.cells, qw, Ev.AV.plain, qaq, qm, qab, qak, Ev.kill, qah, qd, qa4, qbc, qa8, qu, qj, qh, qac, qap, ↓qr, ↓reduceIte, zga, zgb, zgd, zgc, zgo, zfe, zgf, zgg, List.drop_nil, zgl, zgn, zgj, Nat.reduceAdd, Nat.reduceEqDiff, Int.cast_ofNat_Int, reduceCtorEq, zgw, zfc, zfa, zgx, ne_eq, zfb, zff, zfd, Nat.le_refl, zgy]
  try rfl
 | cons x r =>
  have hcl := qp5 r c (by simp at hl; omega)
  have h1 : (1 : Int) ≤ ((r.length + 1 : Nat) : Int) := by omega
  have htk : (r.map Evt.r).take r.length = r.map Evt.r := List.take_of_length_le (by simp)
  obtain ⟨xt, xk, xl, xi, xp, xa⟩ := x
  have h0 : ((r.length + 1 : Nat) : Int) > 0 := by omega
  by_cases h : xt < b
  ·refine ⟨false, ?_⟩
   simp only [qjj, qul, zgr, List.map_cons, Evt.r, h0, h1, h, hcl, htk, Int.le_refl, Nat.add_sub_cancel, imp_self, qag, qv, qfr, qn, Ev.exec, qb, qe, qc, qpk, q1m, Ev.AV.shift, qai, Ev.evs, Ev.Opnd.ev, Ev.Env.get, Ev.Env.set, Ev.look, qo, qf6, qk, qad, Ev.AV.cells, qw, Ev.AV.plain, ql, qaq, qm, qab, qak, Ev.kill, qah, qd, qa4, qbc, qa8, qu, qbm, qj, qh, qa9, qap, qvg, qgk, qfa, qf9, qej, qfs, zgi, ↓qr, ↓reduceIte, zga, zgb, zgd, zge, zgc, zgo, zfe, zgf, zgg, List.drop_nil, zgm, zgl, zgn, zgj, zgh, Nat.reduceAdd, Nat.reduceEqDiff, Nat.reduceLT, Int.reduceLE, Int.reduceToNat, reduceCtorEq, zgv, zgw, zfc, Bool.and_true, zfa, zgx, and_true, ne_eq, zfb, zff, zfd, Nat.le_refl, Option.isSome_none, zgy]
   try rfl
  ·refine ⟨c, ?_⟩
   simp only [qjj, qul, q7t, List.map_cons, Evt.r, h0, h, qag, qv, qn, Ev.exec, qb, qe, qc, qai, Ev.Opnd.ev, Ev.Env.get, Ev.Env.set, Ev.look, qo, qk, qad, qgy, Ev.AV.cells, qw, Ev.AV.plain, ql, qaq, qm, qab, qak, Ev.kill, qah, qd, qa4, qbc, qa8, qu, qj, qh, qac, qan, qap, zgi, ↓qr, ↓reduceIte, zga, zgb, zgd, zgc, zgo, zfe, zgf, zgg, List.drop_nil, zgl, zgn, zgj, zgh, Nat.reduceAdd, Nat.reduceEqDiff, Int.reduceLE, Int.reduceToNat, reduceCtorEq, zgv, zgw, zfc, zfa, zgx, ne_eq, zfb, zff, zfd, Nat.le_refl, zgy]
   try rfl
set_option maxRecDepth 10000
theorem qpu (x y : Evt) (hx : x.key.length ≤ 9223372036854775807) (hy : y.key.length ≤ 9223372036854775807) :
  (evL T).call qq [(.agg [(ii x.time), (.fsl ((x.key).map qca) false), (ii x.lp), (ii x.kind), (ii x.proc), (ii x.arg)]), (.agg [(ii y.time), (.fsl ((y.key).map qca) false), (ii y.lp), (ii y.kind), (ii y.proc), (ii y.arg)])] [] = some ((ii (qpi x y)), []) := by
 obtain ⟨xt, xk, xl, xi, xp, xa⟩ := x
 obtain ⟨yt, yk, yl, yi, yp, ya⟩ := y
 have hc := qkq xt yt
 have hk := qkg xk yk false false hx hy
 have hf := qos (qo8 xt yt) (qk9 xk yk) true
 simp only [List.map_cons, List.map_nil, qca] at hf
 rw [qy qil qh7]
 simp only [qe8, show ∀ v : List AV, List.replicate 2 v = [v, v] from fun _ => rfl, hc, hk, hf, qpi, qag, qn, Ev.exec, qb, qe, qc, qa2, qai, Ev.evs, Ev.Opnd.ev, Ev.Env.get, Ev.Env.set, Ev.look, qo, qk, qad, qf4, Ev.AV.cells, Ev.AV.uc, qw, Ev.AV.plain, qm, qab, qak, Ev.kill, qah, qd, qa4, qu, qj, qh, qac, qan, ↓qr, ↓reduceIte, zga, zgb, zfe, zgf, zgg, zgj, zgk, zgh, Nat.reduceAdd, Nat.reduceEqDiff, Nat.reduceMul, Nat.reduceLT, Nat.reduceLeDiff, Nat.reducePow, reduceCtorEq, zfc, zfa, zgx, ne_eq, zfb, zff, zfd, zgu, zgy]
section
variable (l : List Evt) (c : Bool) (x : Evt)
def At (l : List Evt) (x : Evt) (k : Nat) : Prop := k ≤ l.length ∧ (∀ u, 0 < k → l[k - 1]? = some u → qpi u x < 0) ∧ (∀ v, l[k]? = some v → 0 ≤ qpi v x)
theorem bs_L (hl : l.length ≤ 1000000) (hk : qct l) (kx : x.key.length ≤ 9223372036854775807) :
  ∃ y, itB (exec (evL T) itL none qat) (qs [0, 2, 4, 8, 9, 10] true 0) ⟨[(0, (.fsl ((l).map Evt.r) c)), (2, (.fn (.func qq) [] [])), (4, (.fptr [(ii x.time), (.fsl ((x.key).map qca) false), (ii x.lp), (ii x.kind), (ii x.proc), (ii x.arg)])), (8, (ii l.length)), (9, (ii 0)), (10, (ii l.length))], []⟩ [] = some y ∧
   ∃ k : Nat, y.1 = .exit 0 ∧ y.2.1.marks = [] ∧ y.2.2 = [] ∧ Ev.look y.2.1.vars 0 = some (.fsl ((l).map Evt.r) c) ∧ Ev.look y.2.1.vars 2 = some (.fn (.func qq) [] []) ∧ Ev.look y.2.1.vars 4 = some (.fptr [(ii x.time), (.fsl ((x.key).map qca) false), (ii x.lp), (ii x.kind), (ii x.proc), (ii x.arg)]) ∧ Ev.look y.2.1.vars 8 = some (ii l.length) ∧ Ev.look y.2.1.vars 9 = some (ii k) ∧ At l x k := by
 have key := qg7 (f := exec (evL T) itL none qat) (s := qs [0, 2, 4, 8, 9, 10] true 0) (τ := Nat × Nat) (fun a => ⟨[(0, (.fsl ((l).map Evt.r) c)), (2, (.fn (.func qq) [] [])), (4, (.fptr [(ii x.time), (.fsl ((x.key).map qca) false), (ii x.lp), (ii x.kind), (ii x.proc), (ii x.arg)])), (8, (ii l.length)), (9, (ii a.1)), (10, (ii a.2))], []⟩) (fun _ => []) (fun a => a.2 - a.1)
  (fun a => a.1 ≤ a.2 ∧ a.2 ≤ l.length ∧ (∀ u, 0 < a.1 → l[a.1 - 1]? = some u → qpi u x < 0) ∧ (∀ v, l[a.2]? = some v → 0 ≤ qpi v x))
  (fun y => ∃ k : Nat, y.1 = .exit 0 ∧ y.2.1.marks = [] ∧ y.2.2 = [] ∧ Ev.look y.2.1.vars 0 = some (.fsl ((l).map Evt.r) c) ∧ Ev.look y.2.1.vars 2 = some (.fn (.func qq) [] []) ∧ Ev.look y.2.1.vars 4 = some (.fptr [(ii x.time), (.fsl ((x.key).map qca) false), (ii x.lp), (ii x.kind), (ii x.proc), (ii x.arg)]) ∧ Ev.look y.2.1.vars 8 = some (ii l.length) ∧ Ev.look y.2.1.vars 9 = some (ii k) ∧ At l x k)
  ?_ (0, l.length) ⟨Nat.zero_le _, Nat.le_refl _, fun u h => by simp only at h; omega, fun v hv => by simp at hv⟩
 ·exact key
 rintro ⟨i, j⟩ ⟨h1, h2, h3, h4⟩
 simp only at h1 h2 h3 h4 ⊢
 by_cases hij : i < j
 case neg =>
  have c1 : ¬ (i : Int) < (j : Int) := by omega
  right
  simp only [qat, c1, Ev.exec, qb, qe, qc, qai, Ev.Opnd.ev, Ev.Env.get, Ev.Env.set, Ev.look, ql, ↓qr, Ev.it1, ↓reduceIte, Nat.reduceEqDiff, reduceCtorEq, zgw, zfa, zgy]
  obtain rfl : i = j := by omega
  exact ⟨_, rfl, i, rfl, rfl, rfl, rfl, rfl, rfl, rfl, rfl, by omega, h3, h4⟩
 obtain ⟨h, hh⟩ : ∃ h, h = (i + j) / 2 := ⟨_, rfl⟩
 have c1 : (i : Int) < (j : Int) := by omega
 obtain ⟨y, hy⟩ : ∃ y, l[h]? = some y := ⟨_, List.getElem?_eq_getElem (by omega)⟩
 have w1 : IntKind.i64.wrap ((i : Int) + (j : Int)) = ((i + j : Nat) : Int) := qla (by omega)
 have w2 : IntKind.u64.wrap ((i + j : Nat) : Int) = ((i + j : Nat) : Int) := qq6 (by omega)
 have w3 := qt5 (i + j) h hh
 have w4 : IntKind.i64.wrap (h : Int) = (h : Int) := qrl (by omega)
 have w5 : IntKind.i64.wrap ((h : Int) + 1) = ((h + 1 : Nat) : Int) := ql7 (by omega)
 have ky : y.key.length ≤ 9223372036854775807 := hk y (List.mem_of_getElem? hy)
 have hc := qpu y x ky kx
 left
 by_cases hlt : qpi y x < 0
 ·refine ⟨(h + 1, j), ?_, ⟨by simp only; omega, h2, fun u _ hu => ?_, h4⟩, by simp only; omega⟩
  ·clear h3 h4
   obtain ⟨xt, xk, xl, xi, xp, xa⟩ := x
   obtain ⟨yt, yk, yl, yi, yp, ya⟩ := y
   simp only at hc
   simp only [qat, zgs, zgr, zgq, zgt, hy, c1, w1, w2, w3, w4, w5, hc, hlt, Evt.r, qv, qag, Ev.exec, qb, qe, qc, qkr, qai, Ev.evs, Ev.Opnd.ev, Ev.Env.get, Ev.Env.set, Ev.look, qk, qad, qaf, ql, qs, Ev.keep, qae, qx, qd, qa4, qu, qbq, qe1, qj, qh, ↓qr, Ev.it1, ↓reduceIte, zga, zgb, zgc, zfe, zgl, zgn, Nat.reduceAdd, Nat.reduceEqDiff, reduceCtorEq, zgv, zfc, zgx, zfd, Nat.le_refl, zgy]
  ·simp only [Nat.add_sub_cancel] at hu
   rw [hy] at hu; cases hu; exact hlt
 ·refine ⟨(i, h), ?_, ⟨by simp only; omega, by simp only; omega, h3, fun v hv => by simp only at hv; rw [hy] at hv; cases hv; omega⟩, by simp only; omega⟩
  clear h3 h4
  obtain ⟨xt, xk, xl, xi, xp, xa⟩ := x
  obtain ⟨yt, yk, yl, yi, yp, ya⟩ := y
  simp only at hc
  simp only [qat, zgs, zgr, zgq, zgt, hy, c1, w1, w2, w3, w4, hc, hlt, Evt.r, qv, qag, Ev.exec, qb, qe, qc, qkr, qai, Ev.evs, Ev.Opnd.ev, Ev.Env.get, Ev.Env.set, Ev.look, qk, qad, qaf, ql, qs, Ev.keep, qae, qx, qd, qa4, qu, qbq, qe1, qj, qh, ↓qr, Ev.it1, ↓reduceIte, zga, zgb, zgc, zfe, zgl, zgn, Nat.reduceAdd, Nat.reduceEqDiff, reduceCtorEq, zgv, zgw, zfc, zfa, zgx, zfd, Nat.le_refl, zgy]
theorem bs_ev (hl : l.length ≤ 1000000) (hk : qct l) (kx : x.key.length ≤ 9223372036854775807) : ∃ (k : Nat) (b : Bool), At l x k ∧
  qbb (evL T) qao [(.fsl ((l).map Evt.r) c), (.agg [(ii x.time), (.fsl ((x.key).map qca) false), (ii x.lp), (ii x.kind), (ii x.proc), (ii x.arg)]), (.fn (.func qq) [] [])] = some (.tup [(ii k), (bb b)]) := by
 obtain ⟨⟨y, e, σ⟩, h1, k, h2, h3, h4, h5, h6, h7, h8, h9, hA⟩ := bs_L l c x hl hk kx
 simp only at h2 h3 h4 h5 h6 h7 h8 h9
 subst h2; subst h4
 refine ⟨k, match l[k]? with | some v => decide (qpi v x = 0) | none => false, hA, ?_⟩
 rw [qbb, qy qew qep]
 by_cases hkn : k < l.length
 ·obtain ⟨v, hv⟩ : ∃ v, l[k]? = some v := ⟨_, List.getElem?_eq_getElem hkn⟩
  have c1 : (k : Int) < (l.length : Int) := by omega
  have hc := qpu v x (hk v (List.mem_of_getElem? hv)) kx
  clear hA
  obtain ⟨xt, xk, xl, xi, xp, xa⟩ := x
  obtain ⟨yt, yk, yl, yi, yp, ya⟩ := v
  simp only at hc h1 h7
  simp only [qay, zgs, zgr, zgq, zgt, h1, h3, h5, h6, h7, h8, h9, hv, c1, hc, Evt.r, qv, qag, qn, Ev.exec, qb, qe, qc, qkr, qai, Ev.evs, Ev.Opnd.ev, Ev.Env.get, Ev.Env.set, Ev.look, qo, qk, qad, Ev.AV.cells, qw, Ev.AV.plain, qaj, ql, qm, qab, qak, Ev.kill, qah, qs, Ev.keep, qae, qx, qd, qa4, qa8, qu, qbq, qe1, qj, qh, qap, zgi, ↓qr, ↓qar, ↓reduceIte, zga, zgb, zgc, zfe, zgl, zgn, Nat.reduceAdd, Nat.reduceEqDiff, reduceCtorEq, zgv, zfc, zgx, ne_eq, zfb, zff, zfd, Nat.le_refl, zgy]
 ·have c1 : ¬ (k : Int) < (l.length : Int) := by omega
  have hv : l[k]? = none := List.getElem?_eq_none (by omega)
  clear hA
  obtain ⟨xt, xk, xl, xi, xp, xa⟩ := x
  simp only at h1 h7
  simp only [qay, h1, h3, h8, h9, hv, c1, qv, qag, qn, Ev.exec, qb, qe, qc, qai, Ev.Opnd.ev, Ev.Env.get, Ev.Env.set, Ev.Env.unset, Ev.look, qo, Ev.AV.cells, qw, Ev.AV.plain, ql, qm, qab, qak, Ev.kill, qah, qs, Ev.keep, qae, qx, qd, qa4, qa8, qu, qbq, qe1, qj, qh, qap, zgi, ↓qr, ↓qar, ↓reduceIte, zga, zgb, zfe, Nat.reduceAdd, Nat.reduceEqDiff, reduceCtorEq, zgw, zfc, zfa, zgx, ne_eq, zfb, zff, zfd, zgy]
theorem qvm (hl : l.length ≤ 1000000) (hk : qct l) (kx : x.key.length ≤ 9223372036854775807) : ∃ k : Nat, At l x k ∧
  qbb (evL T) qfm [(.fsl ((l).map Evt.r) c), (.agg [(ii x.time), (.fsl ((x.key).map qca) false), (ii x.lp), (ii x.kind), (ii x.proc), (ii x.arg)])] = some (.fsl ((l.take k ++ x :: l.drop k).map Evt.r) false) := by
 obtain ⟨k, b, hA, hb⟩ := bs_ev l c x hl hk kx
 refine ⟨k, hA, ?_⟩
 have hcl := qp5 l c hl
 have hkl : k ≤ l.length := hA.1
 have ok1 := qfr [x]
 have ok2 := qfr l
 have hb2 : (l.length + 1) * 64 ≤ 2 ^ 47 := by omega
 have hins : (evL T).call qbo [.sl 0 0 0 l.length false, (ii k), .fsl [x.r] true] [.row 6 (l.map Evt.r) 0] = some (.sl 0 2 0 (l.length + 1) false, [.row 6 ((l.take k ++ x :: l.drop k).map Evt.r) 2]) := by
  rw [evL_ins qh5 qie]
  simp only [insF, zgd, zgr]
  rw [if_pos ⟨trivial, trivial, trivial, by omega, by omega, by simp, by omega, hkl, ok1, by rw [List.take_of_length_le (by simp)]; exact ok2, hb2⟩]
  rw [List.map_append, List.map_cons, List.map_take, List.map_drop, List.take_of_length_le (l := l.map Evt.r) (i := l.length) (by simp)]
  rfl
 have htk : ((l.take k ++ x :: l.drop k).map Evt.r).take (l.length + 1) = (l.take k ++ x :: l.drop k).map Evt.r := List.take_of_length_le (by simp; omega)
 have hlen : l.length + 1 ≤ (l.take k ++ x :: l.drop k).length := by simp; omega
 rw [qbb, qy qum qsp]
 clear hA
 generalize l.take k ++ x :: l.drop k = R at *
 obtain ⟨xt, xk, xl, xi, xp, xa⟩ := x
 simp only [Evt.r] at hins
 simp only at hb
 simp only [qkv, hb, hcl, hins, htk, hlen, qv, qag, qn, Ev.exec, qb, qe, qc, qa2, qpk, qd3, q1m, Ev.AV.shift, qai, Ev.evs, Ev.Opnd.ev, Ev.Env.get, Ev.Env.set, Ev.look, qo, qk, qad, qf4, Ev.AV.cells, qw, Ev.AV.plain, qm, qab, qak, Ev.kill, qah, qd, qa4, qbc, qu, qbm, qe1, qj, qh, qgk, qfa, qf9, qej, qfs, List.replicate_one, zgi, ↓qr, ↓reduceIte, zga, zgb, zgd, zge, zgc, zgo, zfe, zgg, zgl, zgj, Nat.reduceAdd, Nat.reduceEqDiff, Nat.reduceMul, Nat.reduceLT, Nat.reduceLeDiff, Nat.reducePow, reduceCtorEq, zgw, zfc, zfa, zgx, and_true, ne_eq, zfb, zff, zfd, Nat.add_zero, zgu, Nat.le_refl, zgy]
end
set_option maxRecDepth 10000
theorem qjp (n : Nat) : ∀ (a b : List (List AV)), qh2 n (a ++ b) = (qh2 n a && qh2 n b)
 | [], b => by simp [qac]
 | x :: a, b => by rw [List.cons_append, qan, qan, qjp n a b, Bool.and_assoc]
theorem q2c (l : List Int) (c : Bool) (h : l.length ≤ 100000) : (evL T).call qfk [(.fsl ((l).map qca) c)] [] = some (.sl 0 0 0 l.length false, [.row 1 (l.map qca) 0]) := by
 have h' : l.length * 8 ≤ 140737488355328 := by omega
 rw [q2z qot]
 simp only [qqx, qag, qaaa, h', zgu, qu, qj, qh, zgi, ↓reduceIte, Nat.reducePow, zfc, zgx, zgu, zgy]
theorem q0v (l : List Int) (c : Bool) (n : Int) (h : l.length ≤ 100000) : qbb (evL T) qi3 [(.fsl ((l).map qca) c), (ii n)] = some (.fsl ((l ++ [n]).map qca) false) := by
 have h' : (l.length + 1) * 8 ≤ 140737488355328 := by omega
 have htl : List.take l.length (l.map qca) = l.map qca := List.take_of_length_le (by simp)
 have htk : ∀ e : List AV, List.take (l.length + 1) (l.map qca ++ [e]) = l.map qca ++ [e] := fun e => List.take_of_length_le (by simp)
 have hr : (l ++ [n]).map qca = l.map qca ++ [[(ii n)]] := by rw [List.map_append]; rfl
 rw [qbb, qy qy5 qwv]
 rw [hr]
 simp only [qmu, q2c l c h, h', htl, htk, qjp, qag, qn, Ev.exec, qb, qe, qc, qpk, q1m, Ev.AV.shift, qai, qnu, Ev.evs, Ev.Opnd.ev, Ev.Env.get, Ev.Env.set, Ev.look, qo, qb0, qf4, Ev.AV.cells, Ev.AV.uc, qw, Ev.AV.plain, qm, qab, qak, Ev.kill, qah, qd, qa4, qu, qbm, qj, qh, qac, qan, qbl, qa9, qgk, qfa, qf9, qej, qfs, List.replicate_one, zgi, ↓qr, ↓reduceIte, zga, zgb, zgp, zgd, zgo, zgg, zgl, zgj, Nat.reduceAdd, Nat.reduceEqDiff, Nat.reduceMul, Nat.reduceLT, Nat.reduceLeDiff, Nat.reducePow, reduceCtorEq, zgv, zgw, zfc, zfa, zgx, and_true, ne_eq, zfb, zff, zfd, Nat.add_zero, zgu, Nat.le_refl, zgy]
set_option maxRecDepth 10000
def Fits (l : List Evt) (x : Evt) (k : Nat) : Prop := k ≤ l.length ∧ (∀ u, 0 < k → l[k - 1]? = some u → leE u x) ∧ (∀ v, l[k]? = some v → leE x v)
theorem At.fits {l : List Evt} {x : Evt} {k : Nat} (h : At l x k) : Fits l x k :=
 ⟨h.1, fun u h0 hu => qym u x (h.2.1 u h0 hu), fun v hv => by have := h.2.2 v hv; have := qoj v x; unfold leE; omega⟩
theorem Fits.perm {l : List Evt} {x : Evt} {k : Nat} : (l.take k ++ x :: l.drop k).Perm (x :: l) := by
 have := List.perm_middle (a := x) (l₁ := l.take k) (l₂ := l.drop k)
 rwa [List.take_append_drop] at this
theorem Fits.sorted {l : List Evt} {x : Evt} {k : Nat} (h : Fits l x k) (hs : l.Pairwise leE) : (l.take k ++ x :: l.drop k).Pairwise leE := by
 obtain ⟨h1, h2, h3⟩ := h
 have hlen : (l.take k).length = k := by rw [List.length_take]; omega
 refine ql8 qkt (by rwa [List.take_append_drop]) (fun u hu => ?_) (fun v hv => ?_)
 ·rw [hlen] at hu
  rw [List.getElem?_take] at hu
  split at hu
  ·exact h2 u (by omega) hu
  ·cases hu
 ·rw [List.getElem?_drop] at hv
  exact h3 v hv
theorem Fits.eq {l : List Evt} {x : Evt} {k : Nat} (h : Fits l x k) (hs : l.Pairwise leE) (hd : qsh (x :: l)) : l.take k ++ x :: l.drop k = sortL (x :: l) :=
 qlc hd Fits.perm (h.sorted hs)
section
variable (l : List Evt) (c : Bool) (x : Evt)
theorem qwy (hl : l.length ≤ 1000000) (hk : qct l) (kx : x.key.length ≤ 9223372036854775807) (hs : l.Pairwise leE) (hd : qsh (x :: l)) : qbb (evL T) qfm [(.fsl ((l).map Evt.r) c), (.agg [(ii x.time), (.fsl ((x.key).map qca) false), (ii x.lp), (ii x.kind), (ii x.proc), (ii x.arg)])] = some (.fsl ((sortL (x :: l)).map Evt.r) false) := by
 obtain ⟨k, hA, h⟩ := qvm l c x hl hk kx
 rw [hA.fits.eq hs hd] at h
 exact h
theorem refIns_L (hl : l.length ≤ 1000000) (hk : qct l) (hkx : x.key.length ≤ 9223372036854775807) :
  ∃ y, itB (exec (evL T) itL none qh6) (qs [0, 3, 5] true 0) ⟨[(0, (.fsl ((l).map Evt.r) c)), (3, (.fptr [(ii x.time), (.fsl ((x.key).map qca) false), (ii x.lp), (ii x.kind), (ii x.proc), (ii x.arg)])), (5, (ii l.length))], []⟩ [] = some y ∧
   ∃ k : Nat, y.1 = .exit 0 ∧ y.2.1.marks = [] ∧ y.2.2 = [] ∧ Ev.look y.2.1.vars 0 = some (.fsl ((l).map Evt.r) c) ∧ Ev.look y.2.1.vars 3 = some (.fptr [(ii x.time), (.fsl ((x.key).map qca) false), (ii x.lp), (ii x.kind), (ii x.proc), (ii x.arg)]) ∧ Ev.look y.2.1.vars 5 = some (ii k) ∧ Fits l x k := by
 refine qg7 (τ := Nat) (fun k => ⟨[(0, (.fsl ((l).map Evt.r) c)), (3, (.fptr [(ii x.time), (.fsl ((x.key).map qca) false), (ii x.lp), (ii x.kind), (ii x.proc), (ii x.arg)])), (5, (ii k))], []⟩) (fun _ => []) (fun k => k)
  (fun k => k ≤ l.length ∧ (∀ v, l[k]? = some v → leE x v)) _ ?_ l.length ⟨Nat.le_refl _, fun v hv => by simp at hv⟩
 rintro k ⟨h1, h2⟩
 cases k with
 | zero =>
  right
  simp only [qh6, Int.lt_irrefl, gt_iff_lt, Ev.exec, qb, qe, qc, qai, Ev.Opnd.ev, Ev.Env.get, Ev.Env.set, Ev.Env.unset, Ev.look, qaq, ↓qr, Ev.it1, ↓reduceIte, Nat.reduceEqDiff, Int.cast_ofNat_Int, reduceCtorEq, zgw, zfa, zgy]
  exact ⟨_, rfl, 0, rfl, rfl, rfl, rfl, rfl, rfl, Nat.zero_le _, fun u h => by omega, h2⟩
 | succ j =>
  obtain ⟨y, hy⟩ : ∃ y, l[j]? = some y := ⟨_, List.getElem?_eq_getElem (by omega)⟩
  obtain ⟨k, hk1⟩ : ∃ k, k = j + 1 := ⟨_, rfl⟩
  rw [← hk1] at h1 h2 ⊢
  have c1 : (k : Int) > 0 := by omega
  have w1 : IntKind.i64.wrap ((k : Int) - 1) = (j : Int) := qr1 hk1 (by omega)
  have hc := qlv y x (hk y (List.mem_of_getElem? hy)) hkx
  by_cases hlt : qpi y x > 0
  ·left
   refine ⟨j, ?_, ⟨by omega, fun v hv => by rw [hy] at hv; cases hv; exact (by have := qoj y x; unfold leE; omega)⟩, by omega⟩
   clear h2
   obtain ⟨xt, xk, xl, xi, xp, xa⟩ := x
   obtain ⟨yt, yk, yl, yi, yp, ya⟩ := y
   simp only at hc
   simp only [qh6, zgs, zgr, zgq, zgt, hy, c1, w1, hc, hlt, Evt.r, qv, qag, Ev.exec, qb, qe, qc, qa2, qai, Ev.evs, Ev.Opnd.ev, Ev.Env.get, Ev.Env.set, Ev.look, qk, qad, qcr, qaq, qs, Ev.keep, qae, qx, qd, qa4, qbc, qu, qbq, qj, qh, ↓qr, Ev.it1, ↓reduceIte, zga, zgb, zgc, zfe, Nat.reduceAdd, Nat.reduceEqDiff, reduceCtorEq, zgv, zfc, zgx, zfd, Nat.le_refl, zgy]
  ·right
   have hle : leE y x := by unfold leE; omega
   have h3 : ∀ u, 0 < k → l[k - 1]? = some u → leE u x := fun u _ hu => by
    rw [hk1, Nat.add_sub_cancel, hy] at hu; cases hu; exact hle
   have hF : Fits l x k := ⟨h1, h3, h2⟩
   clear hle h3 h2
   obtain ⟨xt, xk, xl, xi, xp, xa⟩ := x
   obtain ⟨yt, yk, yl, yi, yp, ya⟩ := y
   simp only at hc
   simp only [qh6, zgs, zgr, zgq, zgt, hy, c1, w1, hc, hlt, Evt.r, qag, Ev.exec, qb, qe, qc, qa2, qai, Ev.evs, Ev.Opnd.ev, Ev.Env.get, Ev.Env.set, Ev.look, qk, qad, qcr, qaq, qa4, qbc, qu, qj, qh, ↓qr, Ev.it1, ↓reduceIte, zga, zgb, zgc, zfe, Nat.reduceAdd, Nat.reduceEqDiff, reduceCtorEq, zgv, zgw, zfc, zfa, zfd, Nat.le_refl, zgy]
   exact ⟨_, rfl, k, rfl, rfl, rfl, rfl, rfl, rfl, hF⟩
theorem qzn (hl : l.length ≤ 1000000) (hk : qct l) (hkx : x.key.length ≤ 9223372036854775807) : ∃ k : Nat, Fits l x k ∧ qbb (evL T) qgv [(.fsl ((l).map Evt.r) c), (.agg [(ii x.time), (.fsl ((x.key).map qca) false), (ii x.lp), (ii x.kind), (ii x.proc), (ii x.arg)])] = some (.fsl ((l.take k ++ x :: l.drop k).map Evt.r) false) := by
 obtain ⟨⟨y, e, σ⟩, k1, k, k2, k3, k4, k5, k6, k7, hF⟩ := refIns_L l c x hl hk hkx
 simp only at k1 k2 k3 k4 k5 k6 k7
 subst k2; subst k4
 refine ⟨k, hF, ?_⟩
 have hkl := hF.1
 clear hF
 obtain ⟨A, B, rfl, hA⟩ : ∃ A B, l = A ++ B ∧ A.length = k := ⟨l.take k, l.drop k, (List.take_append_drop _ _).symm, by simp; omega⟩
 subst hA
 rw [List.take_left' rfl, List.drop_left' rfl]
 have c1 : (A.length : Int) ≤ ((A ++ B).length : Int) := by rw [List.length_append]; omega
 have c2 : (0 : Int) ≤ (A.length : Int) := by omega
 have tk : List.take A.length ((A ++ B).map Evt.r) = A.map Evt.r := by rw [List.map_append]; exact List.take_left' (by simp)
 have dr : List.drop A.length ((A ++ B).map Evt.r) = B.map Evt.r := by rw [List.map_append]; exact List.drop_left' (by simp)
 have hlen : A.length + B.length ≤ 1000000 := by rw [List.length_append] at hl; exact hl
 have b1 : A.length * 64 ≤ 140737488355328 := by omega
 have b2 : (A.length + 1) * 64 ≤ 140737488355328 := by omega
 have b3 : (A.length + 1 + B.length) * 64 ≤ 140737488355328 := by omega
 have tb : List.take ((A ++ B).length - A.length) (B.map Evt.r) = B.map Evt.r := List.take_of_length_le (by simp)
 have ta : List.take A.length (A.map Evt.r) = A.map Evt.r := List.take_of_length_le (by simp)
 have ta2 : ∀ e : List AV, List.take (A.length + 1) (A.map Evt.r ++ [e]) = A.map Evt.r ++ [e] := fun e => List.take_of_length_le (by simp)
 have ta3 : ∀ e : List AV, List.take (A.length + 1 + B.length) (A.map Evt.r ++ e :: B.map Evt.r) = A.map Evt.r ++ e :: B.map Evt.r := fun e => List.take_of_length_le (by simp; omega)
 have okAB : qc5 6 ((A ++ B).map Evt.r) = true := qfr _
 have goal' : (AV.fsl ((A ++ x :: B).map Evt.r) false) = AV.fsl (A.map Evt.r ++ x.r :: B.map Evt.r) false := by rw [List.map_append, List.map_cons]
 have n1 : ∀ p q : Nat, p + 1 + q ≤ p + (q + 1) := fun p q => by omega
 have n2 : ∀ q : Nat, 1 + q ≤ q + 1 := fun q => by omega
 rw [goal']
 clear hl hk
 rw [qbb, qy qwt qu3]
 rcases A with _ | ⟨a, A⟩ <;> rcases B with _ | ⟨b, B⟩
 ·obtain ⟨xt, xk, xl, xi, xp, xa⟩ := x
  simp only [zgl, zgb, List.map_nil, Int.ofNat_zero] at *
  simp only [qhv, k1, k3, k5, k6, k7, c1, tk, dr, b1, b2, ta2, okAB, imp_self, Nat.sub_zero, Int.toNat_zero, Evt.r, qag, qn, Ev.exec, qb, qe, qc, qai, qnu, Ev.Opnd.ev, Ev.Env.get, Ev.Env.set, Ev.look, qo, qf6, qk, qb0, qad, qf4, Ev.AV.cells, qw, Ev.AV.plain, qm, qab, qak, Ev.kill, qah, qs, Ev.keep, qae, qx, qd, qa4, qu, qbq, qbm, qj, qh, qac, qa9, qap, qgk, qf9, qej, List.replicate_one, ↓qr, ↓qar, ↓reduceIte, zga, zgb, zgd, zgc, zgo, zfe, zgg, zgl, zgj, Nat.reduceAdd, Nat.reduceEqDiff, Nat.reduceMul, Nat.reduceLT, Nat.reduceLeDiff, Nat.reducePow, Int.cast_ofNat_Int, reduceCtorEq, zgv, zgw, zfc, Bool.and_true, zfa, zgx, and_true, ne_eq, zfb, zff, zfd, Nat.add_zero, zgu, Nat.le_refl, Option.isSome_some, Option.isSome_none, zgy, implies_true]
 ·generalize hRB : List.map Evt.r (b :: B) = RB at *
  have nB : ¬ RB = [] := by rw [← hRB]; simp
  have lB : RB.length = (b :: B).length := by rw [← hRB]; simp
  have oB : qc5 6 RB = true := by rw [← hRB]; exact qfr _
  have loB : ∀ n, qh2 n RB = true := fun n => by rw [← hRB]; exact qv n _
  obtain ⟨xt, xk, xl, xi, xp, xa⟩ := x
  simp only [zgl, zgb, List.map_nil, Int.ofNat_zero, hRB, Nat.sub_zero, zgg] at *
  generalize hrb : (b :: B).length = nb at *
  simp only [qhv, zgr, k1, k3, k5, k6, k7, c1, c2, tk, b1, b2, b3, ta, ta2, ta3, tb, okAB, imp_self, n2, Int.le_refl, Nat.sub_zero, nB, lB, loB, qbl, Int.toNat_zero, Evt.r, qag, qn, Ev.exec, qb, qe, qc, qai, qnu, Ev.Opnd.ev, Ev.Env.get, Ev.Env.set, Ev.look, qo, qf6, qk, qb0, qad, qf4, Ev.AV.cells, qw, Ev.AV.plain, qm, qab, qak, Ev.kill, qah, qs, Ev.keep, qae, qx, qd, qa4, qu, qbq, qbm, qj, qh, qbl, qa9, qap, qgk, qfa, qf9, qej, List.replicate_one, ↓qr, ↓qar, ↓reduceIte, zga, zgb, zgd, zgc, zgo, zfe, zgg, zgm, zgl, zgj, Nat.reduceAdd, Nat.reduceEqDiff, Nat.reduceMul, Nat.reduceLT, Nat.reduceLeDiff, Nat.reducePow, reduceCtorEq, zgv, zgw, zfc, Bool.and_true, zfa, zgx, and_true, ne_eq, zfb, zff, zfd, Nat.add_zero, zgu, Nat.le_refl, Option.isSome_some, Option.isSome_none, zgy, implies_true]
 ·generalize hRA : List.map Evt.r (a :: A) = RA at *
  have nA : ¬ RA = [] := by rw [← hRA]; simp
  have lA : RA.length = (a :: A).length := by rw [← hRA]; simp
  have oA : qc5 6 RA = true := by rw [← hRA]; exact qfr _
  have loA : ∀ n, qh2 n RA = true := fun n => by rw [← hRA]; exact qv n _
  obtain ⟨xt, xk, xl, xi, xp, xa⟩ := x
  simp only [zgn, zgb, List.map_nil, hRA, Nat.add_zero, Nat.sub_self] at *
  generalize hra : (a :: A).length = na at *
  simp only [qhv, zgr, k1, k3, k5, k6, k7, c1, c2, tk, dr, b1, b2, ta2, tb, okAB, imp_self, Int.le_refl, Nat.sub_zero, nA, lA, loA, qbl, zfe, qjp, Evt.r, qag, qn, Ev.exec, qb, qe, qc, qai, qnu, Ev.Opnd.ev, Ev.Env.get, Ev.Env.set, Ev.look, qo, qf6, qk, qb0, qad, qf4, Ev.AV.cells, qw, Ev.AV.plain, qm, qab, qak, Ev.kill, qah, qs, Ev.keep, qae, qx, qd, qa4, qu, qbq, qbm, qj, qh, qac, qan, qbl, qa9, qgk, qfa, List.replicate_one, ↓qr, ↓qar, ↓reduceIte, zga, zgb, zgp, zgd, zgc, zgo, zfe, zgg, zgl, zgj, Nat.reduceAdd, Nat.reduceEqDiff, Nat.reduceMul, Nat.reduceLT, Nat.reduceLeDiff, Nat.reducePow, Int.reduceToNat, reduceCtorEq, zgv, zgw, zfc, Bool.and_true, zfa, zgx, and_true, ne_eq, zfb, zff, zfd, Nat.add_zero, zgu, Nat.le_refl, Option.isSome_some, Option.isSome_none, zgy, implies_true]
 ·generalize hRA : List.map Evt.r (a :: A) = RA at *
  generalize hRB : List.map Evt.r (b :: B) = RB at *
  have nA : ¬ RA = [] := by rw [← hRA]; simp
  have nB : ¬ RB = [] := by rw [← hRB]; simp
  have lA : RA.length = (a :: A).length := by rw [← hRA]; simp
  have lB : RB.length = (b :: B).length := by rw [← hRB]; simp
  have oA : qc5 6 RA = true := by rw [← hRA]; exact qfr _
  have oB : qc5 6 RB = true := by rw [← hRB]; exact qfr _
  have loA : ∀ n, qh2 n RA = true := fun n => by rw [← hRA]; exact qv n _
  have loB : ∀ n, qh2 n RB = true := fun n => by rw [← hRB]; exact qv n _
  generalize hra : (a :: A).length = na at *
  generalize hrb : (b :: B).length = nb at *
  generalize (a :: A) ++ (b :: B) = AB at *
  obtain ⟨xt, xk, xl, xi, xp, xa⟩ := x
  simp only [qhv, zgr, k1, k3, k5, k6, k7, c1, c2, tk, dr, b1, b2, b3, ta, ta2, ta3, tb, okAB, imp_self, n1, List.append_assoc, Int.le_refl, Nat.sub_zero, nA, nB, lA, lB, oA, oB, loA, loB, qjp, Evt.r, qv, qag, qn, Ev.exec, qb, qe, qc, qai, qnu, Ev.Opnd.ev, Ev.Env.get, Ev.Env.set, Ev.look, qo, qf6, qk, qb0, qad, qf4, Ev.AV.cells, qw, Ev.AV.plain, qm, qab, qak, Ev.kill, qah, qs, Ev.keep, qae, qx, qd, qa4, qu, qbq, qbm, qj, qh, qan, qbl, qa9, qgk, qfa, List.replicate_one, zgi, ↓qr, ↓qar, ↓reduceIte, zga, zgb, zgp, zgd, zgc, zgo, zfe, zgg, zgm, zgl, zgj, Nat.reduceAdd, Nat.reduceEqDiff, Nat.reduceMul, Nat.reduceLT, Nat.reduceLeDiff, Nat.reducePow, Int.reduceToNat, reduceCtorEq, zgv, zgw, zfc, Bool.and_true, zfa, zgx, and_true, ne_eq, zfb, zff, zfd, zgu, Nat.le_refl, Option.isSome_some, Option.isSome_none, zgy, implies_true]
theorem q01 (hl : l.length ≤ 1000000) (hk : qct l) (kx : x.key.length ≤ 9223372036854775807) (hs : l.Pairwise leE) (hd : qsh (x :: l)) : qbb (evL T) qgv [(.fsl ((l).map Evt.r) c), (.agg [(ii x.time), (.fsl ((x.key).map qca) false), (ii x.lp), (ii x.kind), (ii x.proc), (ii x.arg)])] = some (.fsl ((sortL (x :: l)).map Evt.r) false) := by
 obtain ⟨k, hA, h⟩ := qzn l c x hl hk kx
 rw [hA.eq hs hd] at h
 exact h
end
set_option maxRecDepth 10000
theorem qsh.sub {l m : List Evt} (h : qsh m) (s : l.Sublist m) : qsh l := List.Pairwise.sublist s h
theorem q7c {l : List Evt} (hd : qsh l) (hs : l.Pairwise leE) : l = sortL l := qlc hd (List.Perm.refl _) hs
theorem q2e {l m : List Evt} (hd : qsh m) (hp : l.Perm m) : sortL l = sortL m := qlc hd ((qdw l).trans hp) (qfn l)
theorem qv5 (l : List Evt) : (sortL l).length = l.length := (qdw l).length_eq
theorem qct.sortL {l : List Evt} (h : qct l) : qct (sortL l) := fun x hx => h x ((qdw l).mem_iff.1 hx)
section
variable (l m : List Evt) (c d : Bool)
end
def qhs (l : List Evt) (k : List Int) : List Evt × Bool := (l.eraseP (fun e => decide (e.key = k)), l.any (fun e => decide (e.key = k)))
section
variable (l : List Evt) (c : Bool) (k : List Int) (d : Bool)
theorem q9f {i : Nat} {x : Evt} (h : l[i]? = some x) (hx : x.key = k) (hb : ∀ (j : Nat) (z : Evt), j < i → l[j]? = some z → ¬ z.key = k) : qhs l k = (l.take i ++ l.drop (i + 1), true) := by
 unfold qhs
 have hany : l.any (fun e => decide (e.key = k)) = true := List.any_eq_true.2 ⟨x, List.mem_of_getElem? h, by simpa using hx⟩
 rw [hany]
 obtain ⟨hi, hxe⟩ := List.getElem?_eq_some_iff.1 h
 have hsplit : l = l.take i ++ x :: l.drop (i + 1) := by
  rw [← hxe]; simp
 congr 1
 conv => lhs; rw [hsplit]
 rw [List.eraseP_append_right _ (fun z hz => by
  obtain ⟨j, hj⟩ := List.mem_iff_getElem?.1 hz
  rw [List.getElem?_take] at hj
  split at hj
  ·simpa using hb j z (by omega) hj
  ·cases hj)]
 rw [List.eraseP_cons_of_pos (by simpa using hx)]
theorem q45 (h : ∀ x ∈ l, ¬ x.key = k) : qhs l k = (l, false) := by
 unfold qhs
 rw [List.eraseP_of_forall_not (fun x hx => by simpa using h x hx)]
 congr 1
 rw [List.any_eq_false]
 exact fun x hx => by simpa using h x hx
end
set_option maxRecDepth 10000
theorem quy {α : Type} [DecidableEq α] : ∀ {a b : List α}, a.length = b.length → ((a.zip b).all (fun z => decide (z.1 = z.2)) = true ↔ a = b)
 | [], [], _ => by simp
 | x :: a, y :: b, h => by
  rw [List.zip_cons_cons, List.all_cons, Bool.and_eq_true, decide_eq_true_eq, quy (a := a) (b := b) (by simpa using h), List.cons.injEq]
 | [], _ :: _, h => by simp at h
 | _ :: _, [], h => by simp at h
section
variable (a b : List Int) (c d : Bool)
theorem q0h (hab : a.length = b.length) (hl : a.length ≤ 9223372036854775807) :
  ∃ y, itB (exec (evL T) itL none qec) (qs [0, 1, 12, 13] true 0) ⟨[(0, (.fsl ((a).map qca) c)), (1, (.fsl ((b).map qca) d)), (12, (ii a.length)), (13, (ii 0))], []⟩ [] = some y ∧ ((a.zip b).all (fun z => decide (z.1 = z.2)) = true ∧ (y.1 = .exit 0 ∧ y.2.1.marks = [] ∧ y.2.2 = []) ∨
   (a.zip b).all (fun z => decide (z.1 = z.2)) = false ∧ ∃ x, (a.zip b).find? (fun z => !decide (z.1 = z.2)) = some x ∧ (y.1 = .ret ∧ y.2.1.marks = [] ∧ y.2.2 = [] ∧ Ev.look y.2.1.vars 4 = some (bb false))) := by
 have hzl : (a.zip b).length = a.length := by rw [List.length_zip, ← hab, Nat.min_self]
 refine qjv (a.zip b) (fun i => ⟨[(0, (.fsl ((a).map qca) c)), (1, (.fsl ((b).map qca) d)), (12, (ii a.length)), (13, (ii i))], []⟩) [] (fun z => decide (z.1 = z.2)) _ (fun _ y => _) ?_ ?_ ?_
 ·intro i x hi hx hp
  rw [hzl] at hi
  have hi' : (i : Int) < (a.length : Int) := by omega
  have hw : IntKind.i64.wrap ((i : Int) + 1) = ((i + 1 : Nat) : Int) := by rw [qax (by omega) (by omega)]; simp
  obtain ⟨hxa, hxb⟩ := List.getElem?_zip_eq_some.1 hx
  have hp' := of_decide_eq_true hp
  simp only [qec, zgs, zgr, zgq, zgt, hxa, hxb, hi', hw, hp', qag, qca, Ev.exec, qb, qe, qc, qai, Ev.Opnd.ev, Ev.Env.get, Ev.Env.set, Ev.look, qk, qad, qaf, qb6, ql, qs, Ev.keep, qae, qx, qd, qa4, qu, ↓qr, Ev.it1, ↓reduceIte, zga, zgb, zfe, zgh, Nat.reduceEqDiff, reduceCtorEq, zgv, zgw, zfc, zfa, zgx, ne_eq, not_true_eq_false, zfd, zgy]
 ·intro i x hi hx hp
  rw [hzl] at hi
  have hi' : (i : Int) < (a.length : Int) := by omega
  obtain ⟨hxa, hxb⟩ := List.getElem?_zip_eq_some.1 hx
  have hp' : ¬ x.1 = x.2 := of_decide_eq_false hp
  simp only [qec, zgs, zgr, zgq, zgt, hxa, hxb, hi', hp', qca, Ev.exec, qb, qe, qc, qai, Ev.Opnd.ev, Ev.Env.get, Ev.Env.set, Ev.look, qk, qad, qb6, ql, ↓qr, Ev.it1, ↓reduceIte, zga, zgb, zgh, Nat.reduceEqDiff, reduceCtorEq, zgv, zfa, ne_eq, zfb, zfd, zgy]
  exact ⟨_, rfl, rfl, rfl, rfl, rfl⟩
 ·rw [hzl]
  simp only [qec, Int.lt_irrefl, Ev.exec, qb, qe, qc, qai, Ev.Opnd.ev, Ev.Env.get, Ev.Env.set, Ev.look, ql, ↓qr, Ev.it1, ↓reduceIte, Nat.reduceEqDiff, reduceCtorEq, zgw, zfa, zgy]
  exact ⟨_, rfl, rfl, rfl, rfl⟩
theorem qrh (hl : a.length ≤ 9223372036854775807) (hl2 : b.length ≤ 9223372036854775807) : qbb (evL T) qda [(.fsl ((a).map qca) c), (.fsl ((b).map qca) d)] = some (bb (decide (a = b))) := by
 rw [qbb, qy qoz qn0]
 by_cases hab : a.length = b.length
 ·have hab' : (a.length : Int) = (b.length : Int) := by omega
  obtain ⟨⟨y, e, σ⟩, k1, k2⟩ := q0h a b c d hab hl
  simp only at k2
  rcases k2 with ⟨k3, rfl, k4, rfl⟩ | ⟨k3, x, _, rfl, k4, rfl, k5⟩
  ·have : a = b := (quy hab).1 k3
   rw [hab'] at k1
   simp only [qeb, this, qag, qn, Ev.exec, qb, qe, qc, qai, Ev.Opnd.ev, Ev.Env.get, Ev.Env.set, Ev.look, qo, qb6, qm, qab, qak, qah, qs, Ev.keep, qae, qx, qd, qa4, qu, zgi, ↓qr, ↓qar, ↓reduceIte, zga, zgb, zgo, zfe, Nat.reduceAdd, Nat.reduceEqDiff, reduceCtorEq, zgv, zgw, zfc, zfa, zgx, and_true, ne_eq, not_true_eq_false, zfd, zgy]
   subst this
   simp only [k1, k4, Ev.look, Ev.kill, qa4, qap, ↓reduceIte, zgy]
  ·have : ¬ a = b := fun h => by rw [(quy hab).2 h] at k3; cases k3
   simp only [this]
   rw [hab'] at k1
   simp only [qeb, hab', k1, k4, k5, qag, qn, Ev.exec, qb, qe, qc, qai, Ev.Opnd.ev, Ev.Env.get, Ev.Env.set, Ev.look, qo, qb6, qm, qab, qak, Ev.kill, qah, qs, Ev.keep, qae, qx, qd, qa4, qu, qap, zgi, ↓qr, ↓qar, ↓reduceIte, zga, zgb, zfe, Nat.reduceAdd, Nat.reduceEqDiff, reduceCtorEq, zgw, zfc, zfa, zgx, ne_eq, not_true_eq_false, zfd, zgy]
 ·have hab' : ¬ (a.length : Int) = (b.length : Int) := by omega
  have : ¬ a = b := fun h => hab (by rw [h])
  simp only [qeb, hab', this, qn, Ev.exec, qb, qe, qc, qai, Ev.Opnd.ev, Ev.Env.get, Ev.Env.set, Ev.look, qo, qb6, qm, qab, qak, Ev.kill, qah, qd, qa4, qap, zgi, ↓qr, ↓reduceIte, zga, zgb, zfe, Nat.reduceAdd, Nat.reduceEqDiff, reduceCtorEq, zgv, zgw, zgx, ne_eq, zfb, zfd, zgy]
end
theorem qnc (n : Nat) : ∀ (a b : qaa), qd n (a ++ b) = (qd n a && qd n b)
 | [], b => by simp [qd]
 | x :: a, b => by simp only [zgm, qd, qnc n a b, Bool.and_assoc]
theorem qk4 {n : Nat} : ∀ {σ : qaa}, qd n σ = true ↔ ∀ x ∈ σ, SObj.lo n x = true
 | [] => by simp [qd]
 | x :: a => by simp only [qd, Bool.and_eq_true, qk4 (σ := a), List.mem_cons, forall_eq_or_imp]
theorem qth {n : Nat} {σ : qaa} (h : qd n σ = true) (i : Nat) {x : SObj} (hx : x.lo n = true) : qd n (σ.set i x) = true := by
 rw [qk4] at h ⊢
 intro y hy
 rcases List.mem_or_eq_of_mem_set hy with hy | rfl
 ·exact h y hy
 ·exact hx
mutual
theorem q1e {n m : Nat} (h : n ≤ m) : ∀ (a : AV), a.lo n = true → a.lo m = true
 | .v _, _ => by simp only [AV.lo]
 | .agg cs, k => by simp only [AV.lo] at k ⊢; exact qpz h cs k
 | .tup cs, k => by simp only [AV.lo] at k ⊢; exact qpz h cs k
 | .fsl es _, k => by simp only [AV.lo] at k ⊢; exact qlm h es k
 | .fptr cs, k => by simp only [AV.lo] at k ⊢; exact qpz h cs k
 | .sl o _ _ _ _, k => by simp only [AV.lo, decide_eq_true_eq] at k ⊢; omega
 | .ptr o _ _ _, k => by simp only [AV.lo, decide_eq_true_eq] at k ⊢; omega
 | .fn _ a b, k => by simp only [AV.lo, Bool.and_eq_true] at k ⊢; exact ⟨qpz h a k.1, qpz h b k.2⟩
 | .yld o, k => by simp only [AV.lo, decide_eq_true_eq] at k ⊢; omega
 | .mp o, k => by simp only [AV.lo, decide_eq_true_eq] at k ⊢; omega
theorem qpz {n m : Nat} (h : n ≤ m) : ∀ (l : List AV), los n l = true → los m l = true
 | [], _ => by simp only [los]
 | a :: l, k => by simp only [los, Bool.and_eq_true] at k ⊢; exact ⟨q1e h a k.1, qpz h l k.2⟩
theorem qlm {n m : Nat} (h : n ≤ m) : ∀ (es : List (List AV)), qh2 n es = true → qh2 m es = true
 | [], _ => by simp only [qh2]
 | a :: l, k => by simp only [qh2, Bool.and_eq_true] at k ⊢; exact ⟨qpz h a k.1, qlm h l k.2⟩
end
theorem qzt {n m : Nat} (h : n ≤ m) : ∀ (l : List (Nat × AV)), qae n l = true → qae m l = true
 | [], _ => by simp only [qae]
 | (_, a) :: r, k => by simp only [qae, Bool.and_eq_true] at k ⊢; exact ⟨q1e h a k.1, qzt h r k.2⟩
theorem qxu {n m : Nat} (h : n ≤ m) (o : SObj) (k : o.lo n = true) : o.lo m = true := by
 cases o <;> simp only [SObj.lo] at k ⊢
 ·exact qlm h _ k
 ·exact qzt h _ k
theorem qmc {n m : Nat} (h : n ≤ m) {σ : qaa} (k : qd n σ = true) : qd m σ = true := by
 rw [qk4] at k ⊢
 exact fun x hx => qxu h x (k x hx)
set_option maxRecDepth 10000
def qga : List (Int × AV) := [(1, .fn (.func qck) [] []), (2, .fn (.func qcq) [] []), (3, .fn (.func qch) [] []), (4, .fn (.func qb8) [] []), (5, .fn (.func qcg) [] []), (6, .fn (.func qcv) [] []), (7, .fn (.func qcn) [] []), (8, .fn (.func qcu) [] [])]
section
variable (a0 a1 a2 : Int) (am : Nat) (x : Ex) (gp gc gg : Nat)
theorem qrq (i : Nat) (hi : x.ev.proc = i) (hp : i < x.procs.length) :
  (evL T).call qaz [.ptr 5 0 0 0] [.row 4 [[(ii a0), (ii a1), .sl 2 0 0 am false, (ii a2)]] 0, .row 4 [[(ii 0), (ii 0), .fsl [] false, (ii 0)]] 0, .row 4 ((x.procs).map Pr.r) gp, .row 6 ((x.out).map Evt.r) gc, .row 1 ((x.gone).map qfv) gg, .row 14 [[(ii x.r0), (ii x.r1), .sl 2 gp 0 x.procs.length false, (ii x.sum), (ii x.ev.time), (.fsl ((x.ev.key).map qca) false), (ii x.ev.lp), (ii x.ev.kind), (ii x.ev.proc), (ii x.ev.arg), .sl 3 gc 0 x.out.length false, (ii x.n), .sl 4 gg 0 x.gone.length false, (bb x.over)]] 0, .mp .i64 qga] = some (.ptr 2 gp i 0, [.row 4 [[(ii a0), (ii a1), .sl 2 0 0 am false, (ii a2)]] 0, .row 4 [[(ii 0), (ii 0), .fsl [] false, (ii 0)]] 0, .row 4 ((x.procs).map Pr.r) gp, .row 6 ((x.out).map Evt.r) gc, .row 1 ((x.gone).map qfv) gg, .row 14 [[(ii x.r0), (ii x.r1), .sl 2 gp 0 x.procs.length false, (ii x.sum), (ii x.ev.time), (.fsl ((x.ev.key).map qca) false), (ii x.ev.lp), (ii x.ev.kind), (ii x.ev.proc), (ii x.ev.arg), .sl 3 gc 0 x.out.length false, (ii x.n), .sl 4 gg 0 x.gone.length false, (bb x.over)]] 0, .mp .i64 qga]) := by
 rw [qy qkd qjy]
 simp only [qe5, hi, hp, zgs, zgr, qag, qas, qv, qbu, Nat.reduceLT, qn, Ev.exec, qb, qe, qc, qai, Ev.Opnd.ev, Ev.Env.get, Ev.Env.set, Ev.look, qo, qk, qad, qm, qab, qak, Ev.kill, qah, qd, Ev.SObj.lo, qa4, qu, qbm, qfw, qj, qh, qac, qan, ↓qr, ↓reduceIte, zga, zgb, zgd, zge, zgc, zfe, zgf, zgg, zgh, Nat.reduceAdd, Nat.reduceEqDiff, Nat.reduceLT, reduceCtorEq, zgv, zfc, zfa, zgx, zfd, Nat.add_zero, zgy]
theorem q82 (k p a : Int) : (evL T).call qcx [.ptr 5 0 0 0, (ii k), (ii p), (ii a)] [.row 4 [[(ii a0), (ii a1), .sl 2 0 0 am false, (ii a2)]] 0, .row 4 [[(ii 0), (ii 0), .fsl [] false, (ii 0)]] 0, .row 4 ((x.procs).map Pr.r) gp, .row 6 ((x.out).map Evt.r) gc, .row 1 ((x.gone).map qfv) gg, .row 14 [[(ii x.r0), (ii x.r1), .sl 2 gp 0 x.procs.length false, (ii x.sum), (ii x.ev.time), (.fsl ((x.ev.key).map qca) false), (ii x.ev.lp), (ii x.ev.kind), (ii x.ev.proc), (ii x.ev.arg), .sl 3 gc 0 x.out.length false, (ii x.n), .sl 4 gg 0 x.gone.length false, (bb x.over)]] 0, .mp .i64 qga] = some (.agg [(ii 0), .fsl [] false, (ii x.ev.lp), (ii k), (ii p), (ii a)], [.row 4 [[(ii a0), (ii a1), .sl 2 0 0 am false, (ii a2)]] 0, .row 4 [[(ii 0), (ii 0), .fsl [] false, (ii 0)]] 0, .row 4 ((x.procs).map Pr.r) gp, .row 6 ((x.out).map Evt.r) gc, .row 1 ((x.gone).map qfv) gg, .row 14 [[(ii x.r0), (ii x.r1), .sl 2 gp 0 x.procs.length false, (ii x.sum), (ii x.ev.time), (.fsl ((x.ev.key).map qca) false), (ii x.ev.lp), (ii x.ev.kind), (ii x.ev.proc), (ii x.ev.arg), .sl 3 gc 0 x.out.length false, (ii x.n), .sl 4 gg 0 x.gone.length false, (bb x.over)]] 0, .mp .i64 qga]) := by
 rw [qy qol qnv]
 simp only [qgl, qag, qas, qv, qbu, Nat.reduceLT, Nat.reduceLeDiff, qn, Ev.exec, qb, qe, qc, qai, Ev.Opnd.ev, Ev.Env.get, Ev.Env.set, Ev.look, qo, qk, qad, qgy, Ev.AV.cells, Ev.AV.uc, qw, Ev.AV.plain, qm, qab, qak, Ev.kill, qah, qd, Ev.SObj.lo, qa4, qbc, qu, qbm, qj, qh, qac, qan, ↓qr, ↓reduceIte, zga, zgb, zgd, zge, zgc, zgo, zfe, zgf, zgg, List.drop_nil, zgm, zgl, zgn, zgj, zgk, zgh, Nat.reduceAdd, Nat.reduceEqDiff, Nat.reduceLT, Nat.reduceLeDiff, reduceCtorEq, zgv, zfc, zfa, zgx, ne_eq, zfb, zff, zfd, Nat.le_refl, zgy]
def qmk (x : Ex) (d : Int) (gc : Nat) : Nat := if w64 (x.ev.time + d) > 1152921504606846976 then gc else gc + 1
theorem qtr (h : x.Small) (d : Int) (t0 lp k p a : Int) (ks : List Int) :
  (evL T).call qbs [.ptr 5 0 0 0, (ii d), .agg [(ii t0), (.fsl ((ks).map qca) false), (ii lp), (ii k), (ii p), (ii a)]] [.row 4 [[(ii a0), (ii a1), .sl 2 0 0 am false, (ii a2)]] 0, .row 4 [[(ii 0), (ii 0), .fsl [] false, (ii 0)]] 0, .row 4 ((x.procs).map Pr.r) gp, .row 6 ((x.out).map Evt.r) gc, .row 1 ((x.gone).map qfv) gg, .row 14 [[(ii x.r0), (ii x.r1), .sl 2 gp 0 x.procs.length false, (ii x.sum), (ii x.ev.time), (.fsl ((x.ev.key).map qca) false), (ii x.ev.lp), (ii x.ev.kind), (ii x.ev.proc), (ii x.ev.arg), .sl 3 gc 0 x.out.length false, (ii x.n), .sl 4 gg 0 x.gone.length false, (bb x.over)]] 0, .mp .i64 qga] = some ((.fsl ((x.kid).map qca) false), [.row 4 [[(ii a0), (ii a1), .sl 2 0 0 am false, (ii a2)]] 0, .row 4 [[(ii 0), (ii 0), .fsl [] false, (ii 0)]] 0, .row 4 (((x.create d ⟨t0, ks, lp, k, p, a⟩).procs).map Pr.r) gp, .row 6 (((x.create d ⟨t0, ks, lp, k, p, a⟩).out).map Evt.r) (qmk x d gc), .row 1 (((x.create d ⟨t0, ks, lp, k, p, a⟩).gone).map qfv) gg, .row 14 [[(ii ((x.create d ⟨t0, ks, lp, k, p, a⟩).r0)), (ii ((x.create d ⟨t0, ks, lp, k, p, a⟩).r1)), .sl 2 gp 0 (x.create d ⟨t0, ks, lp, k, p, a⟩).procs.length false, (ii ((x.create d ⟨t0, ks, lp, k, p, a⟩).sum)), (ii ((x.create d ⟨t0, ks, lp, k, p, a⟩).ev.time)), (.fsl (((x.create d ⟨t0, ks, lp, k, p, a⟩).ev.key).map qca) false), (ii ((x.create d ⟨t0, ks, lp, k, p, a⟩).ev.lp)), (ii ((x.create d ⟨t0, ks, lp, k, p, a⟩).ev.kind)), (ii ((x.create d ⟨t0, ks, lp, k, p, a⟩).ev.proc)), (ii ((x.create d ⟨t0, ks, lp, k, p, a⟩).ev.arg)), .sl 3 (qmk x d gc) 0 (x.create d ⟨t0, ks, lp, k, p, a⟩).out.length false, (ii ((x.create d ⟨t0, ks, lp, k, p, a⟩).n)), .sl 4 gg 0 (x.create d ⟨t0, ks, lp, k, p, a⟩).gone.length false, (bb ((x.create d ⟨t0, ks, lp, k, p, a⟩).over))]] 0, .mp .i64 qga]) := by
 have hk := q0v x.ev.key false x.n h.key
 have hs : (x.out.length + 1) * 64 ≤ 140737488355328 := by have := h.out; omega
 have htl : List.take x.out.length (x.out.map Evt.r) = x.out.map Evt.r := List.take_of_length_le (by simp)
 have hlo : los 7 ([(ii x.r0), (ii x.r1), .sl 2 gp 0 x.procs.length false, (ii x.sum), (ii x.ev.time), (.fsl ((x.ev.key).map qca) false), (ii x.ev.lp), (ii x.ev.kind), (ii x.ev.proc), (ii x.ev.arg), .sl 3 gc 0 x.out.length false, (ii x.n), .sl 4 gg 0 x.gone.length false, (bb x.over)]) = true := by simp only [qag, Nat.reduceLT, qa4, qu, qbm, qj, qh, Nat.reduceLT, zgv, zfc, zgy]
 rw [qy qm3 qmj]
 unfold Ex.create qmk Ex.kid
 by_cases ho : w64 (x.ev.time + d) > 1152921504606846976
 ·have ho' : IntKind.i64.wrap (x.ev.time + d) > 1152921504606846976 := ho
  simp only [ho, if_true]
  simp only [qed, hk, ho', qag, qas, qv, qbu, Nat.reduceLT, Nat.reduceLeDiff, qn, Ev.exec, qb, qe, qc, qa2, qai, Ev.evs, Ev.Opnd.ev, Ev.Env.get, Ev.Env.set, Ev.look, qo, qk, qad, Ev.AV.cells, Ev.AV.uc, qw, Ev.AV.plain, qaf, qaq, qm, qab, qak, Ev.kill, qah, qd, Ev.SObj.lo, qa4, qu, qbm, qj, qh, qac, qan, ↓qr, ↓reduceIte, zga, zgb, zgd, zge, zgc, zgo, zgf, zgg, List.drop_nil, zgm, zgl, zgn, zgj, zgk, zgh, Nat.reduceAdd, Nat.reduceEqDiff, Nat.reduceLT, Nat.reduceLeDiff, reduceCtorEq, zgv, zfc, zfa, zgx, ne_eq, zfb, zff, zfd, Nat.add_zero, Nat.le_refl, zgy]
  done
 ·have ho' : ¬ IntKind.i64.wrap (x.ev.time + d) > 1152921504606846976 := ho
  simp only [ho, if_false]
  have hr : ∀ e : Evt, (x.out ++ [e]).map Evt.r = x.out.map Evt.r ++ [e.r] := fun e => by rw [List.map_append]; rfl
  simp only [qed, hk, ho', hs, htl, hr, qjp, Evt.r, qag, qas, qv, qbu, Nat.reduceLT, Nat.reduceLeDiff, qn, Ev.exec, qb, qe, qc, qa2, qai, qnu, Ev.evs, Ev.Opnd.ev, Ev.Env.get, Ev.Env.set, Ev.look, qo, qk, qb0, qad, qf4, Ev.AV.cells, Ev.AV.uc, qw, Ev.AV.plain, qaf, qaq, qm, qab, qak, Ev.kill, qah, qd, Ev.SObj.lo, qa4, qu, qbm, qj, qh, qac, qan, qbl, qa9, List.replicate_one, zgi, ↓qr, ↓reduceIte, zga, zgb, zgp, zgd, zge, zgc, zgo, zfe, zgf, zgg, zgm, zgl, zgj, zgk, zgh, Nat.reduceAdd, Nat.reduceEqDiff, Nat.reduceMul, Nat.reduceLT, Nat.reduceLeDiff, Nat.reducePow, reduceCtorEq, zgv, zgw, zfc, zfa, zgx, ne_eq, zfb, zff, zfd, Nat.add_zero, zgu, Nat.le_refl, zgy]
  done
end
end Go.Proofs.Ytbhhifdhlafklaa.K
